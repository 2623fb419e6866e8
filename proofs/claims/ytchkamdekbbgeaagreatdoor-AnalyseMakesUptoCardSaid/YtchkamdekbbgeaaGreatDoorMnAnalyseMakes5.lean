/-
  Walks and plain laws that the law rests on, laid together. No conditions but those that each theorem names.
-/
import Derived.Test.YtchkamdekbbgeaaGreatDoorMnAnalyseMakes4
set_option linter.unusedVariables false
set_option maxRecDepth 20000
set_option maxHeartbeats 1000000
open Array renaming getElem?_eq_some_iff→bY
open Bool renaming or_eq_false_iff→o4
open Classical renaming not_not→mI
open Except.ok renaming injEq→qX
open Go.Proofs.Tryz renaming prog→ao
open Go.Value renaming agg→bB,bool→bU,int→fG,oneCell'→eO,tuple→jY
open Go.World renaming ownsRow→bq,ownsRow_nil→dS
open List renaming all_eq_true→kK,append_assoc→dZ,append_nil→ep,count_eq_zero→qg,count_le_length→sU,drop_eq_nil_of_le→lC,eq_nil_of_length_eq_zero→gx,ext_getElem?→om,find?_cons→JB,find?_eq_none→Cs,findIdx?_eq_none_iff→JC,getD_eq_getElem?_getD→cR,getElem?_append_left→mK,getElem?_append_right→nD,getElem?_cons_zero→ym,getElem?_eq_getElem→bW,getElem?_eq_some_iff→eQ,getElem?_map→fH,getElem?_of_mem→rj,getElem?_set→kh,getElem?_zip_eq_some→jg,length→mL,length_append→bK,length_cons→bX,length_map→e8,length_nil→fZ,length_pos_iff→mM,length_set→uW,length_singleton→iR,length_take→ee,length_zip→yq,map_append→iw,mem_append→js,mem_cons→eB,mem_of_getElem?→fz,not_mem_nil→yt,take_of_length_le→e9,toArray→ba
open Nat renaming le_refl→cz,le_trans→ea,lt_or_ge→jh,zero_add→fQ
open Option renaming getD_some→Ke,isSome_iff_exists→l9
open Prod renaming snd→mP
open Go.Proofs.Tryz
open Go.Hb.dF Go.Proofs Go.Hb.et Go.Hb.ff Go.Hb.nJ Go.Hb.fj

section
namespace Go.Hb.qm
open Go.Hb.pw
structure nK (w:World) (B fb:Nat) (mc:Nat) (F:aC) (V:eh):Prop where
 cells:w.heap[fb]? =some (.cells (nR F V mc).toArray 164 (0,0))
 o9:bq w B 189 2 V.v9 F.du.length (nn F.du)
 gM:bq w B 51 1 V.v10 F.aliases.length V.sa
 al:dE w B 95 V.sa F.aliases
 gh:bq w B 192 5 V.v11 F.bC.length (mm F.bC)
 eo:bq w B 134 7 V.v12 F.rules.length (fX<|F.rules.zip V.rn)
 nx:dE w B 95 V.rn (F.rules.map (·.next))
 lo:B≤fb∧B≤mc
 jU:F.sp.length=5
theorem nK.md {G:Nat→Prop} {w w':World} {B fb mc:Nat} {F:aC} {V:eh} (h:nK w B fb mc F V) (hm:Md G w w') {L:List Nat} (a:TF w L G) (c:(L.contains 166 || L.contains 191 || L.contains 53 || L.contains 97 || L.contains 194 || L.contains 136)=false):nK w' B fb mc F V:=by
 simp only [o4] at c
 obtain ⟨⟨⟨⟨⟨h1,h2⟩,h3⟩,h4⟩,h5⟩,h6⟩:=c
 have q:∀ k,G k→∀ cur z,w.heap[k]?≠some (.cells cur 95 z):=fun k hk cur z A=>a.no (dD A) h4 hk
 exact ⟨hm.gT a h.cells h1,cX h.o9 hm a h2,cX h.gM hm a h3,h.al.md hm q,cX h.gh hm a h5,cX h.eo hm a h6,h.nx.md hm q,h.lo,h.jU⟩
theorem nK.wk {w w':World} {B fb mc:Nat} {F:aC} {V:eh} (h:nK w B fb mc F V) (hm:Wk w w'):nK w' B fb mc F V:=h.md (L:= []) hm (fun _ hk=>hk.elim) rfl
theorem PU {w:World} {B fb mc:Nat} {F:aC} {V:eh} (h:c8 w B fb mc F V):nK w B fb mc F V:=⟨h.cells,h.o9,h.gM,h.al,h.gh,h.eo,h.nx,h.lo,h.jU⟩
theorem nK.KS {w C I:World} {B fb mc:Nat} {F:aC} {V:eh} {v:Value} {x:dP} {f:Value→Option Value} (h:nK w B fb mc F V) (A:bS w.heap mc (jQ .u16) f) (Z:∀ y:Nat,f (aX y)=((F.bC++ [x]).findIdx? fun c=>decide (c.flag=y)).map fun i:Nat=>fG .i64 i) (hm:Md (fun k=>V.v11.ownBlock=some k) w C) (O:bq C B 192 5 v (F.bC++ [x]).length (mm<|F.bC++ [x])) (a:Md (fun k=>k=fb) C I) (Y:I.heap[fb]? =some (.cells (nR {F with bC:=F.bC++ [x]} {V with v11:=v} mc).toArray 164 (0,0))):c8 I B fb mc {F with bC:=F.bC++ [x]} {V with v11:=v} :=by
 have q:TF w [194] (fun k=>V.v11.ownBlock=some k):=TF.own h.gh aw
 have G:=hm.gT q h.cells aw
 have E:TF C [166] (fun k=>k=fb):=TF.eq (dD G) aw
 have J:∀ k,V.v11.ownBlock=some k→∀ cur z,w.heap[k]?≠some (.cells cur 95 z):=jD h.gh aw
 have M:∀ k,k=fb→∀ cur z,C.heap[k]?≠some (.cells cur 95 z):=ic G aw
 have aa:=dK<|A.md hm<|q.no (dK A) aw
 exact ⟨Y,cX (cX h.o9 hm q aw) a E aw,cX (cX h.gM hm q aw) a E aw,(h.al.md hm J).md a M,cx O a (fun k hk A=>dx O G aw<|A ▸ hk),cX (cX h.eo hm q aw) a E aw,(h.nx.md hm J).md a M,⟨f,(A.md hm<|q.no (dK A) aw).md a (E.no aa aw),Z⟩,h.lo,h.jU⟩
theorem cD.Tk {w C G:World} {B:Nat} {H:cy} {F F':aC} {R:gl} {rows:List Rw} {ln:Nat} {seen:List Tx} {v:Value} {q:cK} (h:cD w B H F R rows ln seen) (hm:Md (fun k=>R.vn.ownBlock=some k) w C) (V:bq C B 3 1 v (F.rules++ [q]).length ((F.rules++ [q]).map fun r=>fG .i64 (r.line:Nat))) (a:Md (fun k=>k=H.rb) C G) (Y:G.heap[H.rb]? =some (.cells (uo H {R with vn:=v} ln).toArray 167 (0,0))) (ab:F'.rules=F.rules++ [q]) (hd:∀ x,eu F' x=eu F x):cD G B H F' {R with vn:=v} rows ln seen:=by
 have E:TF w [5] (fun k=>R.vn.ownBlock=some k):=TF.own h.on aw
 have c:=hm.gT E h.cells aw
 have I:TF C [169] (fun k=>k=H.rb):=TF.eq (dD c) aw
 obtain ⟨f,A,Z⟩:=h.sm
 obtain ⟨g,M,aa⟩:=h.tm
 have J:=A.md hm<|E.no (dK A) aw
 have O:=M.md hm<|E.no (dK M) aw
 exact ⟨Y,(h.rws.md hm<|jD h.on aw).md a (ic c aw),(h.rt.md hm<|jD h.on aw).md a (ic c aw),⟨f,J.md a (I.no (dK J) aw),Z⟩,⟨g,O.md a (I.no (dK O) aw),fun x ac=>by rw [hd]; exact aa x ac⟩,by rw [ab]; exact cx V a (fun k hk A=>dx V c aw<|A ▸ hk),h.lo,h.ne⟩
theorem zO {cs:List dP} {x:Nat} (h:(dM cs x).isSome=false):cs.findIdx? (fun c=>decide (c.flag=x))=none:=by
 rw [JC]
 unfold dM at h
 rw [Option.isSome_eq_false_iff,Option.isNone_iff_eq_none,Cs] at h
 intro c a
 simpa using h c a
theorem OO {F:aC} {c:dP} (y:Nat):eu {F with bC:=F.bC++ [c]} y=(decide (y=c.flag) || eu F y):=by
 have h1:(dM (F.bC++ [c]) y).isSome=((dM F.bC y).isSome || decide (y=c.flag)):=by
  unfold dM
  rw [List.find?_append,Option.isSome_or]
  congr 1
  by_cases h:c.flag=y
  · simp [h]
  · simp [h,Ne.symm h]
 unfold eu
 show (decide (y∈F.sp) || (dM (F.bC++ [c]) y).isSome)=_
 rw [h1]
 cases decide (y∈F.sp) <;> cases (dM F.bC y).isSome <;> cases decide (y=c.flag) <;> rfl
theorem NW {F:aC} {c:dP} {f:Value→Option Value} (hd:eu F c.flag=false) (a:∀ x:Nat,f (aX x)=(F.bC.findIdx? fun c=>decide (c.flag=x)).map fun i:Nat=>fG .i64 i) (y:Nat):bA f (aX c.flag) (.int .i64 (F.bC.length:Nat)) (aX y)=((F.bC++ [c]).findIdx? fun c=>decide (c.flag=y)).map fun i:Nat=>fG .i64 i:=by
 unfold eu at hd
 rw [o4] at hd
 rw [List.findIdx?_append]
 by_cases h:y=c.flag
 · subst h
   rw [mA,zO hd.2]
   simp
 · rw [kU (fun h2=>h<|Ie h2),a y]
   cases F.bC.findIdx? fun c=>decide (c.flag=y) <;> simp [Ne.symm h]
theorem D4 {eof ln e:Nat} {F:aC} {rows:List Rw} {r:List Tx} (h:iP F (r.getD 1 [])= .error e):gV eof F rows ln r= .error (ln,e):=by unfold gV; rw [h]
theorem D5 {eof ln x:Nat} {F:aC} {rows:List Rw} {r:List Tx} (h:iP F (r.getD 1 [])= .ok x) (h1:r.getD 2 []≠[89]) (h2:r.getD 2 []≠[78]):gV eof F rows ln r= .error (ln,114):=by unfold gV; rw [h]; exact if_pos ⟨h1,h2⟩
theorem Nn {eof ln x e:Nat} {F:aC} {rows:List Rw} {r:List Tx} (h:iP F (r.getD 1 [])= .ok x) (h1:r.getD 2 []= [89]∨r.getD 2 []= [78]) (h2:eD (r.getD 3 []) 1024= .error e):gV eof F rows ln r= .error (ln,e):=by
 unfold gV; rw [h]; simp only; rw [if_neg (fun h3=>h1.elim h3.1 h3.2),h2]
theorem No {eof ln x n:Nat} {F:aC} {rows:List Rw} {r:List Tx} (h:iP F (r.getD 1 [])= .ok x) (h1:r.getD 2 []= [89]∨r.getD 2 []= [78]) (h2:eD (r.getD 3 []) 1024= .ok n) (h3:1024 < F.rules.length+n):gV eof F rows ln r= .error (ln,117):=by
 unfold gV; rw [h]; simp only; rw [if_neg (fun h3=>h1.elim h3.1 h3.2),h2]; simp only; rw [if_pos h3]
theorem zk {eof ln x n:Nat} {F:aC} {rows:List Rw} {r:List Tx} {e:Nat×Nat} (h:iP F (r.getD 1 [])= .ok x) (h1:r.getD 2 []= [89]∨r.getD 2 []= [78]) (h2:eD (r.getD 3 []) 1024= .ok n) (h3:¬1024 < F.rules.length+n) (h4:group [r.getD 0 [],r.getD 1 []] (jn F.kind F.aliases (⟨x,(if r.getD 0 []=dA then 2 else 1:Nat),(decide (r.getD 2 []= [89])),F.rules.length,n⟩:dP)) eof n rows= .error e):gV eof F rows ln r= .error e:=by
 unfold gV; rw [h]; simp only; rw [if_neg (fun h3=>h1.elim h3.1 h3.2),h2]; simp only; rw [if_neg h3,h4]
theorem Np {eof ln x n:Nat} {F:aC} {rows:List Rw} {r:List Tx} {q:List cK×List Rw} (h:iP F (r.getD 1 [])= .ok x) (h1:r.getD 2 []= [89]∨r.getD 2 []= [78]) (h2:eD (r.getD 3 []) 1024= .ok n) (h3:¬1024 < F.rules.length+n) (h4:group [r.getD 0 [],r.getD 1 []] (jn F.kind F.aliases (⟨x,(if r.getD 0 []=dA then 2 else 1:Nat),(decide (r.getD 2 []= [89])),F.rules.length,n⟩:dP)) eof n rows= .ok q):gV eof F rows ln r= .ok ({F with bC:=F.bC++ [(⟨x,(if r.getD 0 []=dA then 2 else 1:Nat),(decide (r.getD 2 []= [89])),F.rules.length,n⟩:dP)],rules:=F.rules++q.1},q.2):=by
 unfold gV; rw [h]; simp only; rw [if_neg (fun h3=>h1.elim h3.1 h3.2),h2]; simp only; rw [if_neg h3,h4]
theorem D6 (B:Nat) (H:cy) (F:aC) (rows:List Rw) (ln:Nat) (seen:List Tx) (r:List Tx) (cB:Nat) (ar:Option Addr) (cr:Nat) (w:World) (a:St w B H F rows ln seen) (c2:Tg w cB 9 r.length (.slice ar r.length cr) (r.map str)) (gf:r.length=4) (cu:∀ x∈r,x.length≤70000) (f3:F.du.length+F.aliases.length+F.bC.length+F.rules.length+rows.length < 70000):
 eG ao 134 (ba [.pointer (some ⟨H.rb,0,none⟩),.slice ar r.length cr]) w (iG B H seen (gV H.eof F rows ln r) w) (iF B H (gV H.eof F rows ln r) w):=by
 obtain ⟨V,R,J,am,aF⟩:=a
 have ac:=c2.dG
 have gg:(r.getD 1 []).length≤70000:=cu _<|eZ ab
 have gi:(r.getD 2 []).length≤70000:=cu _<|eZ ab
 have gj:(r.getD 3 []).length≤70000:=cu _<|eZ ab
 have gd:=am.lo
 have f8:=aF.len
 have gk:=(bY.1 am.cells).1
 obtain ⟨a12,dI,fw⟩:=cT J.eo
 obtain ⟨cE,kr,dp⟩:=cT J.gh
 have eW:Hb.aM w.heap H.fb 12=some (.slice a12 F.rules.length dI):=by rw [← fw]; exact (a7 J.cells).trans rfl
 have f9:Hb.aM w.heap H.fb 11=some (.slice cE F.bC.length kr):=by rw [← dp]; exact (a7 J.cells).trans rfl
 have e2:∀ b,w.heap.size≤b→¬(V.v11.ownBlock=some b):=fun b f2 h=>by have :=cV J.gh h; omega
 obtain ⟨tf,fv,dl⟩:=am.tm
 refine jw func134 aa ntmps134 aa ?_
 refine e6 (fun b2 cA=> ∃ (x I:Nat),(iP F (r.getD 1 [])= .ok x)∧(x≠0)∧(eu F x=false)∧(w.heap.size≤I)∧(cA.heap[I]? =some (.cells [aX x,.int .i64 (1:Nat),.bool false,.int .i64 (F.rules.length:Nat),.int .i64 (0:Nat)].toArray 192 (0,0)))∧(Wk w cA)∧(b2 0= .pointer (some ⟨H.rb,0,none⟩))∧(b2 1= .slice ar r.length cr)∧(b2 4= .pointer (some ⟨I,0,none⟩))) ?_ ?_
 have C:(fun w'=>Wk w w') w.drew:=(Md.refl _ _).drew
 refine bT (fun w'=>Wk w w') aa wide C<|hp 0 aa ag (fun _ _=>aJ (.pointer<|some ⟨H.rb,0,none⟩) aa) C<|hp 1 aa ag (fun _ _=>aJ (.slice ar r.length cr) aa) C<|hp 2 aa ag (fun _ _=>bd ec aa aa ab<|aG.ok (ac.2)<|db ab) C<|hp 3 aa ag (fun w' a=>ld cH aa<|Wk.aM a<|dz.get (i:=1) ac.2 ab) C<|hp 5 aa ag (fun _ _=>aJ (.pointer<|some ⟨H.rb,0,none⟩) aa) C<|hp 6 aa ag (fun _ _=>nc aa) C<|hp 7 aa ag (fun _ _=>fa gu aa) C<|hp 8 aa ag (fun w' a=>ld eX aa<|Wk.aM a<|(a7 am.cells).trans aa) C<|hp 9 aa ag (fun _ _=>nc aa) C<|hp 10 aa ag (fun _ _=>fa fU aa) C<|hp 11 aa ag (fun _ _=>fa na aa) C<|hp 12 aa ag (fun w' a=>ld jM aa<|Wk.aM a<|eW) C<|hp 13 aa ag (fun _ _=>bP pX aa aa) C<|Rh (Pn:=fun c w'=> ∃ e,iP F (r.getD 1 [])= .error e∧c=ij 45 ln (e:Nat)∧Wk w.drew w') 4 15 aa aa ag aa aa ?_ (fun c w' A aS J=>by obtain ⟨e,he,h,h2⟩:=A; exact ⟨ln,e,D4 he,h,Wk.mw<|Md.trans C h2⟩) ?_
 refine c7 yW (Ac B H F V R rows ln seen (r.getD 1 []) w.drew (J.wk C) (am.wk C) aF.kd ab) aa fun v10 bW bi=> ?_
 obtain ⟨x,ae,bx,rfl,aQ,bE⟩:=bi
 have an:(fun w'=>Wk w w') bW:=Md.trans C bE
 refine ⟨an,?_⟩
 refine hp 14 aa ag (fun _ _=>di (ps:= [(0,aX x),(1,.int .i64 (1:Nat)),(3,.int .i64 (F.rules.length:Nat))]) (L:= [aX x,.int .i64 (1:Nat),.bool false,.int .i64 (F.rules.length:Nat),.int .i64 0]) Bt aa<|aa) an<|he 15 aa ag<|gn sJ fun I b1 eS cb b5=> ?_
 have az:(fun w'=>Wk w w') b1:=Md.trans an cb.md
 refine ⟨az,?_⟩
 refine he 16 aa ag<|fY qA aa aa aa aa b5 aw fun cx b9 b6=> ?_
 have bl:(fun w'=>Wk w w') cx:=Md.trans' az b9 fun k hk h=>by have h1:=Md.size an; have h2:=Md.size C; omega
 refine ⟨bl,?_⟩
 exact hn ag<|tn<|⟨x,I,ae,bx,aQ,(by have h1:=Md.size an; have h2:=Md.size C; omega),b6,bl,aa,aa,aa⟩
 refine gn sJ fun I b1 eS cb b5=> ?_
 have az:(fun w'=>Wk w w') b1:=Md.trans C cb.md
 refine ⟨az,?_⟩
 refine r8 4 aa ag aa (c7 yW (Ac B H F V R rows ln seen (r.getD 1 []) b1 (J.wk az) (am.wk az) aF.kd ab) aa fun v10 bW bi=> ?_) fun c w' A aS J=>by obtain ⟨e,he,h,h2⟩:=A; exact ⟨ln,e,D4 he,h,Wk.mw<|Md.trans az h2⟩
 obtain ⟨x,ae,bx,rfl,aQ,bE⟩:=bi
 have an:(fun w'=>Wk w w') bW:=Md.trans az bE
 refine ⟨an,?_⟩
 refine hp 14 aa ag (fun _ _=>di (ps:= [(0,aX x),(1,.int .i64 (1:Nat)),(3,.int .i64 (F.rules.length:Nat))]) (L:= [aX x,.int .i64 (1:Nat),.bool false,.int .i64 (F.rules.length:Nat),.int .i64 0]) Bt aa<|aa) an<|he 16 aa ag<|fY qA aa aa aa aa (Wk.aB bE b5) aw fun cx b9 b6=> ?_
 have bl:(fun w'=>Wk w w') cx:=Md.trans' an b9 fun k hk h=>by have h1:=Md.size an; have h2:=Md.size C; omega
 refine ⟨bl,?_⟩
 exact hn ag<|tn<|⟨x,I,ae,bx,aQ,(by have h1:=Md.size an; have h2:=Md.size C; omega),b6,bl,aa,aa,aa⟩
 rintro b2 cA ⟨x,I,ae,bx,aQ,e9,dj,bB,fe,ff,fg⟩
 refine fx 0 fe<|fx 1 ff<|fx 4 fg ?_
 refine e6 (fun b3 a0=>(a0.heap[I]? =some (.cells [aX x,.int .i64 ((if r.getD 0 []=dA then 2 else 1:Nat):Nat),.bool false,.int .i64 (F.rules.length:Nat),.int .i64 (0:Nat)].toArray 192 (0,0)))∧(Wk w a0)∧(b3 0= .pointer (some ⟨H.rb,0,none⟩))∧(b3 1= .slice ar r.length cr)∧(b3 4= .pointer (some ⟨I,0,none⟩))) ?_ ?_
 refine sq fun dE b8=>rg aa<|p (aJ (.slice ar r.length cr) aa)<|p (bd ec aa aa ab<|aG.ok (aG.wk ac.2 bB)<|db ab)<|p (ld cH aa<|dz.get (i:=0) (aG.wk ac.2 bB) ab)<|p (jP aa aa)<|nl<|tn<|b8 _ _<|cd aa (fun cn=> ?_) fun cn=> ?_
 exact rg aa<|p (fa tU aa)<|e<|dy jN aa aa (v:= .int .i64 (2:Nat)) aa dj (by show _ < 5; decide) fun gC d9 dO=>nl<|tn<|⟨(by rw [if_pos (show r.getD 0 []=dA from cn)]; exact dO),(bB.trans' d9 fun k hk h=>by omega),aa,aa,aa⟩
 exact aR<|tn<|⟨(by rw [if_neg (show ¬r.getD 0 []=dA from cn)]; exact dj),bB,aa,aa,aa⟩
 rintro b3 a0 ⟨e7,aj,fh,fi,fj⟩
 refine fx 0 fh<|fx 1 fi<|fx 4 fj ?_
 refine e6 (fun b4 dB=>(r.getD 2 []= [89]∨r.getD 2 []= [78])∧(dB=a0)∧(b4 0= .pointer (some ⟨H.rb,0,none⟩))∧(b4 1= .slice ar r.length cr)∧(b4 4= .pointer (some ⟨I,0,none⟩))) ?_ ?_
 refine rg aa<|p (aJ (.pointer<|some ⟨H.rb,0,none⟩) aa)<|p (aJ (.slice ar r.length cr) aa)<|p (bd ec aa aa ab<|aG.ok (aG.wk ac.2 aj)<|db ab)<|p (ld cH aa<|dz.get (i:=2) (aG.wk ac.2 aj) ab)<|p (jP aa aa)<|p mv<|gs (t:=31) aa (fun bN=> ?_) fun bN=> ?_
 refine sk aa aa aa aa<|sk aa aa aa aa<|sk aa aa aa aa<|sk aa aa aa aa<|p (bR aa)<|eP aa (c7 gy (gD H.rb ln _ 114 a0 (Wk.aM aj am.ei) aw) aa fun v37 fE cc=> ?_) fun c w' A aS J=>by first | exact absurd A.2.1 aw | exact ⟨ln,114,D5 ae bN (of_decide_eq_false A.2.1),A.1,by rw [A.2.2]; exact Wk.mw aj⟩
 obtain ⟨rfl,dr,rfl⟩:=cc
 exact nl<|tn<|⟨(.inl bN),aa,aa,aa,aa⟩
 refine pg aa aa aa (aJ (.slice ar r.length cr) aa)<|pg aa aa aa (bd ec aa aa ab<|aG.ok (aG.wk ac.2 aj)<|db ab)<|pg aa aa aa (ld cH aa<|dz.get (i:=2) (aG.wk ac.2 aj) ab)<|pg aa aa aa (jP aa aa)<|p (bI aa)<|eP aa (c7 gy (gD H.rb ln _ 114 a0 (Wk.aM aj am.ei) aw) aa fun v37 fE cc=> ?_) fun c w' A aS J=>by first | exact absurd A.2.1 aw | exact ⟨ln,114,D5 ae bN (of_decide_eq_false A.2.1),A.1,by rw [A.2.2]; exact Wk.mw aj⟩
 obtain ⟨rfl,dr,rfl⟩:=cc
 exact nl<|tn<|⟨(.inr<|of_decide_eq_true dr),aa,aa,aa,aa⟩
 rintro b4 dB ⟨aW,fy,fk,fl,fo⟩
 refine fx 0 fk<|fx 1 fl<|fx 4 fo ?_
 subst fy
 refine sq fun dE b8=>rg aa<|p (aJ (.slice ar r.length cr) aa)<|p (bd ec aa aa ab<|aG.ok (aG.wk ac.2 aj)<|db ab)<|p (ld cH aa<|dz.get (i:=2) (aG.wk ac.2 aj) ab)<|p (jP aa aa)<|p (fa Fp aa)<|e<|dy En aa aa (v:= .bool<|decide (r.getD 2 []= [89])) aa e7 (by show _ < 5; decide) fun fF ea dQ=> ?_
 have bb:=aj.trans' ea fun k hk h=>by omega
 refine nl<|tn<|b8 _ _<|sq fun fL d1=>rg aa<|p (aJ (.pointer<|some ⟨H.rb,0,none⟩) aa)<|p (aJ (.slice ar r.length cr) aa)<|p (bd ec aa aa ab<|aG.ok (aG.wk ac.2 bb)<|db ab)<|p (ld cH aa<|dz.get (i:=3) (aG.wk ac.2 bb) ab)<|eP aa (c7 vG (xf H.rb ln (r.getD 3 []) 1024 fF (Wk.aM bb am.ei) ab ab) aa fun gz gB ez=> ?_) fun c w' A aS J=>by obtain ⟨e,he,h,h2⟩:=A; exact ⟨ln,e,Nn ae aW he,h,Wk.mw<|bb.trans h2⟩
 obtain ⟨n,aV,rfl,cI⟩:=ez
 have ge:=AQ aV
 refine p (fa wq aa)<|e<|dy jN aa aa (v:= .int .i64 (n:Nat)) aa (Wk.aB cI dQ) (by show _ < 5; decide) fun dv ed dR=> ?_
 have aI:=(bb.trans cI).trans' ed fun k hk h=>by omega
 have bs:dv.heap[I]? =some (.cells [aX x,.int .i64 ((if r.getD 0 []=dA then 2 else 1:Nat):Nat),.bool (decide (r.getD 2 []= [89])),.int .i64 (F.rules.length:Nat),.int .i64 (n:Nat)].toArray 192 (0,0)):=dR
 refine nl<|tn<|d1 _ _<|sq fun fM d2=>rg aa<|p (aJ (.pointer<|some ⟨H.rb,0,none⟩) aa)<|p (fa Fq aa)<|p (ld bO aa<|(a7 bs).trans aa)<|p (fa wq aa)<|p (ld bO aa<|(a7 bs).trans aa)<|p (bL ((F.rules.length+n:Nat):Int) aa aa<|bm ab ab)<|p (le aa aa)<|eP aa (c7 gy (gD H.rb ln _ 117 dv (Wk.aM aI am.ei) aw) aa fun gA cz eA=> ?_) fun c w' A aS J=>⟨ln,117,No ae aW aV (by have :=of_decide_eq_false A.2.1; omega),A.1,by rw [A.2.2]; exact Wk.mw aI⟩
 obtain ⟨rfl,fz,rfl⟩:=eA
 have bz:¬1024 < F.rules.length+n:=by have :=of_decide_eq_true fz; omega
 have bG:=am.wk aI
 have dU:=J.wk aI
 have bQ:=fv.wk aI
 refine nl<|tn<|d2 _ _<|sq fun fN d3=> ?_
 have au:(fun w'=>Wk cz w') cz.drew:=(Md.refl _ _).drew
 refine eL (fun w'=>Wk cz w') 8 aa wide au<|lq 0 aa ag (fun _ _=>aJ (.pointer<|some ⟨H.rb,0,none⟩) aa) au<|lq 1 aa ag (fun _ _=>nc aa) au<|lq 2 aa ag (fun _ _=>fa zY aa) au<|lq 3 aa ag (fun w' a=>ld ti aa<|Wk.aM a<|(a7 bG.cells).trans aa) au<|lq 4 aa ag (fun _ _=>fa z6 aa) au<|lq 5 aa ag (fun w' a=>ld bZ aa<|Wk.aM a<|(a7 bs).trans aa) au<|lq 6 aa ag (fun w' a=>lh qU mH qJ (bS.md (bQ) a id) aa aa (⟨_,aa⟩) (show _=fG .i64 0 from (dl x bx).trans<|by rw [aQ]; rfl)) au<|lq 7 aa ag (fun _ _=>bL ((1:Nat):Int) aa aa<|bm ab ab) au<|dq 8 aa ag ag<|qV qU qJ (bQ.wk au) aa aa aa (⟨_,aa⟩) fun a1 eb es=> ?_
 have bg:=jb eb
 have bk:cD a1 B H {F with bC:=F.bC++ [(⟨x,(if r.getD 0 []=dA then 2 else 1:Nat),(decide (r.getD 2 []= [89])),F.rules.length,n⟩:dP)]} R rows ln seen:=bG.uh bg es rfl (H4 aQ dl fun y _=>OO y)
 have bc:=dU.uh bG bg
 have dd:=bg.aB bs fun h=>bQ.nj<|h ▸ bs
 have eN:=(c2.wk aI).md bg fun k hk cur z cq=>by subst hk; exact bQ.nj cq
 have ek:=(Wk.mw aI).trans<|eF.mt bG bg
 obtain ⟨cf,co,eY⟩:=bc.cm
 have eV:Hb.aM a1.heap H.fb 11=some (.slice cE F.bC.length kr):=by rw [← dp]; exact (a7 bc.cells).trans rfl
 refine eK ag<|tn<|d3 _ _<|sq fun fO d4=> ?_
 have E:(fun w'=>Wk a1 w') a1.drew:=(Md.refl _ _).drew
 refine eL (fun w'=>Wk a1 w') 18 aa wide E<|lq 0 aa ag (fun _ _=>aJ (.pointer<|some ⟨H.rb,0,none⟩) aa) E<|lq 1 aa ag (fun _ _=>nc aa) E<|lq 2 aa ag (fun _ _=>fa gu aa) E<|lq 3 aa ag (fun w' a=>ld eX aa<|Wk.aM a<|(a7 bk.cells).trans aa) E<|lq 4 aa ag (fun _ _=>nc aa) E<|lq 5 aa ag (fun _ _=>fa Fk aa) E<|lq 6 aa ag (fun w' a=>ld ti aa<|Wk.aM a<|(a7 bc.cells).trans aa) E<|lq 7 aa ag (fun _ _=>fa z6 aa) E<|lq 8 aa ag (fun w' a=>ld bZ aa<|Wk.aM a<|(a7 dd).trans aa) E<|lq 9 aa ag (fun _ _=>aJ (.pointer<|some ⟨H.rb,0,none⟩) aa) E<|lq 10 aa ag (fun _ _=>nc aa) E<|lq 11 aa ag (fun _ _=>fa gu aa) E<|lq 12 aa ag (fun w' a=>ld eX aa<|Wk.aM a<|(a7 bk.cells).trans aa) E<|lq 13 aa ag (fun _ _=>nc aa) E<|lq 14 aa ag (fun _ _=>fa fU aa) E ?_
 refine lq 15 aa ag (fun _ _=>fa rZ aa) E<|lq 16 aa ag (fun w' a=>ld vu aa<|Wk.aM a<|eV) E<|lq 17 aa ag (fun _ _=>bP Ii aa aa) E<|dq 18 aa ag ag<|qV qU qJ (co.wk E) aa aa aa (⟨_,aa⟩) fun a2 ee et=> ?_
 have ev:bS a2.heap H.mc (jQ .u16) (bA cf (aX x)<|.int .i64 (F.bC.length:Nat)):=et
 have bh:=jb ee
 have ch:TF a1 [1] (fun k=>k=H.mc):=TF.eq (dK co) aw
 have br:=(PU bc).md (L:= [1]) bh ch aw
 have bH:=bk.md (L:= [1]) bh ch aw bk.ne.2.1 bk.ne.2.2
 have c6:=bh.gT ch dd aw
 have eO:=eN.md bh fun k hk cur z cq=>by subst hk; exact co.nj cq
 have em:=ek.trans<|bh.mono fun k _ hk=>⟨hk ▸ bc.lo.2,.inr<|.inr<|.inl hk⟩
 have de:=e2 I e9
 have bw:¬(V.v11.ownBlock=some H.rb):=dx br.gh bH.cells aw
 have cs:¬(V.v11.ownBlock=some H.fb):=dx br.gh br.cells aw
 refine eK ag<|tn<|d4 _ _<|sq fun fP d5=> ?_
 have O:(fun w'=>Md (fun k=>V.v11.ownBlock=some k) a2 w') a2.drew:=(Md.refl _ _).drew
 refine eL (fun w'=>Md (fun k=>V.v11.ownBlock=some k) a2 w') 18 aa wide O<|cG 0 aa ag (fun _=>aJ (.pointer<|some ⟨H.rb,0,none⟩) aa) (fun _=>O)<|cG 1 aa ag (fun _=>nc aa) (fun _=>O)<|cG 2 aa ag (fun _=>fa gu aa) (fun _=>O)<|jS 3 aa ag (fun w' a=>ld eX aa<|Md.aM a ((a7 bH.cells).trans aa) bw) O<|cG 4 aa ag (fun _=>aJ (.pointer<|some ⟨H.rb,0,none⟩) aa) (fun _=>O)<|cG 5 aa ag (fun _=>nc aa) (fun _=>O)<|cG 6 aa ag (fun _=>fa gu aa) (fun _=>O)<|jS 7 aa ag (fun w' a=>ld eX aa<|Md.aM a ((a7 bH.cells).trans aa) bw) O<|cG 8 aa ag (fun _=>nc aa) (fun _=>O)<|cG 9 aa ag (fun _=>fa fU aa) (fun _=>O)<|cG 10 aa ag (fun _=>fa rZ aa) (fun _=>O)<|jS 11 aa ag (fun w' a=>ld vu aa<|Md.aM a ((a7 br.cells).trans aa) cs) O<|jS 12 aa ag (fun w' a=>cg tj aa (aa) fun j e0=>bD.bp ⟨_,Md.aB a c6 de⟩ j) O<|ja 13 aa ag<|nM xy aa aa aa fun f1 fH f7 cR dS=> ?_
 have aT:=jb cR.md
 have av:=br.wk aT
 have cU:=bH.wk aT
 have gq:=(bY.1 cU.cells).1
 have c1:(fun w'=>Md (fun k=>V.v11.ownBlock=some k) a2 w') fH:=O.trans' cR.md fun _ _ h=>h.elim
 refine ⟨c1,?_⟩
 refine ja 14 aa ag<|ap xy (av.gh) aa ab aa (aG.fV dS) (aa) (aa) ab ab fun cv dw dh aO gv gc=> ?_
 have en:=(em.trans<|Wk.mw aT).trans<|Mw.of aO (TF.own av.gh aw) fun k hk=>(cV av.gh hk).1
 have bi:=cD.own cU av.gh aO aw
 have bt:=aO.aB av.cells<|dx av.gh av.cells aw
 have ci:=aO.aB (Wk.aB aT c6) de
 have eC:=(eO.wk aT).md aO<|jD av.gh aw
 have e5:bq dw B 192 5 cv (F.bC++ [(⟨x,(if r.getD 0 []=dA then 2 else 1:Nat),(decide (r.getD 2 []= [89])),F.rules.length,n⟩:dP)]).length (mm<|F.bC++ [(⟨x,(if r.getD 0 []=dA then 2 else 1:Nat),(decide (r.getD 2 []= [89])),F.rules.length,n⟩:dP)]):=by rw [show mm (F.bC++ [(⟨x,(if r.getD 0 []=dA then 2 else 1:Nat),(decide (r.getD 2 []= [89])),F.rules.length,n⟩:dP)])=mm F.bC++mW (⟨x,(if r.getD 0 []=dA then 2 else 1:Nat),(decide (r.getD 2 []= [89])),F.rules.length,n⟩:dP) from by simp [mm],bK]; exact dh
 have bM:(fun w'=>Md (fun k=>V.v11.ownBlock=some k) a2 w') dw:=c1.trans' aO fun _ _ h=>h
 refine ⟨bM,?_⟩
 refine cG 15 aa ag (fun _=>nc aa) (fun _=>bM)<|cG 16 aa ag (fun _=>fa fU aa) (fun _=>bM)<|cG 17 aa ag (fun _=>fa rZ aa) (fun _=>bM)<|dq 18 aa ag ag<|dy Es aa aa (v:=cv) (eM dh) bt (by show _ < 14; omega) fun aZ ak b7=> ?_
 have dT:=nK.KS (x:=(⟨x,(if r.getD 0 []=dA then 2 else 1:Nat),(decide (r.getD 2 []= [89])),F.rules.length,n⟩:dP)) av (ev.wk aT) (NW (c:=(⟨x,(if r.getD 0 []=dA then 2 else 1:Nat),(decide (r.getD 2 []= [89])),F.rules.length,n⟩:dP)) aQ eY) aO e5 ak b7
 have ew:=cD.vY bi bt ak
 have c9:=ak.aB ci fun h=>by rw [h,bt] at ci; cases ci
 have eD:=eC.md ak<|ic bt aw
 have ef:=en.trans<|Mw.of ak (TF.eq (dD bt) aw) fun k hk=>hk ▸ av.lo.1
 refine eK ag<|tn<|d5 _ _<|sq fun fQ d6=>rg aa<|p (fa wq aa)<|p (ld bO aa<|(a7 c9).trans aa)<|p mv<|nl<|tn<|d6 _ _<|aB<|lp (fun cF a3 ah=> ∃ (i:Nat) (xs:List cK) (rows':List Rw) (bU:Nat) (G:eh) (R':gl),(i≤n)∧(gS [r.getD 0 [],r.getD 1 []] (jn F.kind F.aliases (⟨x,(if r.getD 0 []=dA then 2 else 1:Nat),(decide (r.getD 2 []= [89])),F.rules.length,n⟩:dP)) H.eof (group [r.getD 0 [],r.getD 1 []] (jn F.kind F.aliases (⟨x,(if r.getD 0 []=dA then 2 else 1:Nat),(decide (r.getD 2 []= [89])),F.rules.length,n⟩:dP)) H.eof n rows) xs (n - i) rows')∧(xs.length=i)∧(c8 ah B H.fb H.mc {F with bC:=F.bC++ [(⟨x,(if r.getD 0 []=dA then 2 else 1:Nat),(decide (r.getD 2 []= [89])),F.rules.length,n⟩:dP)],rules:=F.rules++xs} G)∧(cD ah B H {F with bC:=F.bC++ [(⟨x,(if r.getD 0 []=dA then 2 else 1:Nat),(decide (r.getD 2 []= [89])),F.rules.length,n⟩:dP)],rules:=F.rules++xs} R' rows' bU seen)∧(j0 {F with bC:=F.bC++ [(⟨x,(if r.getD 0 []=dA then 2 else 1:Nat),(decide (r.getD 2 []= [89])),F.rules.length,n⟩:dP)],rules:=F.rules++xs} rows' seen)∧(eF B H w ah)∧(ah.heap[I]? =some (.cells [aX x,.int .i64 ((if r.getD 0 []=dA then 2 else 1:Nat):Nat),.bool (decide (r.getD 2 []= [89])),.int .i64 (F.rules.length:Nat),.int .i64 (n:Nat)].toArray 192 (0,0)))∧(Tg ah cB 9 r.length (.slice ar r.length cr)<|r.map str)∧(a3 0= .pointer (some ⟨H.rb,0,none⟩))∧(a3 1= .slice ar r.length cr)∧(a3 4= .pointer (some ⟨I,0,none⟩))∧(a3 102= .int .i64 (n:Nat))∧(a3 103= .int .i64 (i:Nat))∧(n - i=cF)) _ ⟨0,[],rows,ln,{V with v11:=cv},R,ab,gS.start,aa,(by rw [ep]; exact dT),(by rw [ep]; exact ew),(⟨by simp only [bK,iR,fZ]; omega,aF.sl,aF.row,aF.kd,aF.al⟩),ef,c9,eD,aa,aa,aa,aa,aa,aa⟩ ?_
 rintro cF a3 ah ⟨i,xs,rows',bU,G,R',hi,aU,fA,cJ,ax,a8,cN,dk,bo,fq,fr,fu,fs,ft,rfl⟩
 refine fx 0 fq<|fx 1 fr<|fx 4 fu<|fx 102 fs<|fx 103 ft<|sq fun fR d7=>rg aa<|p (lt aa aa)<|nl<|tn<|d7 _ _<|sq fun fS d8=>cd aa (fun eU=> ?_) fun eU=> ?_
 refine aR<|tn<|d8 _ _<|sq fun fI dX=>aB<|sq fun fJ dY=> ?_
 have ay:(fun w'=>Md (fun k=>k=H.rb) ah w') ah.drew:=(Md.refl _ _).drew
 refine bT (fun w'=>Md (fun k=>k=H.rb) ah w') aa wide ay<|hp 0 aa ag (fun _ _=>aJ (.pointer<|some ⟨H.rb,0,none⟩) aa) ay<|hp 1 aa ag (fun _ _=>aJ (.slice ar r.length cr) aa) ay<|hp 2 aa ag (fun _ _=>bd ec aa aa ab<|aG.ok (bo.dG.2)<|db ab) ay<|hp 3 aa ag (fun w' a=>ld cH aa<|dz.get (i:=0) (bo.md a<|ic ax.cells aw).dG.2 ab) ay<|hp 4 aa ag (fun _ _=>aJ (.slice ar r.length cr) aa) ay<|hp 5 aa ag (fun _ _=>bd ec aa aa ab<|aG.ok (bo.dG.2)<|db ab) ay<|hp 6 aa ag (fun w' a=>ld cH aa<|dz.get (i:=1) (bo.md a<|ic ax.cells aw).dG.2 ab) ay<|he 7 aa ag<|qy (L:= [str (r.getD 0 []),str (r.getD 1 [])]) kW aa aa aa aa fun dH cw f5 cQ dM=> ?_
 have ai:Wk ah cw:=jb cQ.md
 have cO:=cN.trans<|Wk.mw ai
 have cW:(fun w'=>Md (fun k=>k=H.rb) ah w') cw:=ay.trans' cQ.md fun _ _ h=>h.elim
 refine ⟨cW,?_⟩
 refine r8 8 aa ag aa (c7 yX (Am B H {F with bC:=F.bC++ [(⟨x,(if r.getD 0 []=dA then 2 else 1:Nat),(decide (r.getD 2 []= [89])),F.rules.length,n⟩:dP)],rules:=F.rules++xs} R' rows' bU seen [r.getD 0 [],r.getD 1 []] dH 2 _ _ cw (ax.wk ai) (Tg.AV dM aa) aa aw fun q ct=>(a8.row q ct).2.1) aa fun gx aA ey=> ?_) (fun c w' A aS J=>by
  obtain ⟨h1,h2⟩:=A
  have hm:=cO.trans<|eF.rb (ax.wk ai) h2
  rcases h1 with ⟨rfl,h3⟩ | ⟨bV,aY,rest,rfl,h4,h3⟩
  exact ⟨_,_,zk ae aW aV bz (aU.ends ab),h3,hm⟩
  exact ⟨_,_,zk ae aW aV bz (aU.other ab h4),h3,hm⟩)
 obtain ⟨bV,aY,rest,rfl,dn,⟨aD,bj⟩,hT15,hM15⟩:=ey
 obtain ⟨dF,tv,rfl⟩:=hT15.slice
 have aK:=(cJ.wk ai).rb (ax.wk ai) hM15
 have cP:=cO.trans<|eF.rb (ax.wk ai) hM15
 have fd:aY≠[]∧aY.length≤70000∧∀ x∈aY,x.length≤70000:=a8.row (bV,aY)<|by simp
 have a6:=j0.rU a8
 have eT:=a8.len
 simp only [bX,bK] at eT
 have eE:=(bo.wk ai).md hM15<|ic (ax.wk ai).cells aw
 have cj:=hM15.aB (Wk.aB ai dk) fun h=>by have h1:=(ax.wk ai).cells; rw [← h,Wk.aB ai dk] at h1; cases h1
 have cX:(fun w'=>Md (fun k=>k=H.rb) ah w') aA:=cW.trans' hM15 fun _ _ h=>h
 refine ⟨cX,?_⟩
 refine hp 9 aa ag (fun _ _=>aE) cX<|hn ag<|tn<|dY _ _<|sq fun fK d0=> ?_
 have bw:¬(G.v12.ownBlock=some H.rb):=dx aK.eo bj.cells aw
 have cs:¬(G.v12.ownBlock=some H.fb):=dx aK.eo aK.cells aw
 have e1:¬(G.v12.ownBlock=some I):=dx aK.eo cj aw
 have M:(fun w'=>Md (fun k=>G.v12.ownBlock=some k) aA w') aA.drew:=(Md.refl _ _).drew
 refine eL (fun w'=>Md (fun k=>G.v12.ownBlock=some k) aA w') 21 aa wide M<|cG 0 aa ag (fun _=>aJ (.pointer<|some ⟨H.rb,0,none⟩) aa) (fun _=>M)<|cG 1 aa ag (fun _=>nc aa) (fun _=>M)<|cG 2 aa ag (fun _=>fa gu aa) (fun _=>M)<|jS 3 aa ag (fun w' a=>ld eX aa<|Md.aM a ((a7 bj.cells).trans aa) bw) M<|cG 4 aa ag (fun _=>aJ (.pointer<|some ⟨H.rb,0,none⟩) aa) (fun _=>M)<|cG 5 aa ag (fun _=>nc aa) (fun _=>M)<|cG 6 aa ag (fun _=>fa gu aa) (fun _=>M)<|jS 7 aa ag (fun w' a=>ld eX aa<|Md.aM a ((a7 bj.cells).trans aa) bw) M<|cG 8 aa ag (fun _=>nc aa) (fun _=>M)<|cG 9 aa ag (fun _=>fa fU aa) (fun _=>M)<|cG 10 aa ag (fun _=>fa na aa) (fun _=>M)<|jS 11 aa ag (fun w' a=>ld jM aa<|Md.aM a ((a7 aK.cells).trans aa) cs) M<|cG 12 aa ag (fun _=>aJ (.pointer<|some ⟨H.rb,0,none⟩) aa) (fun _=>M)<|jS 13 aa ag (fun w' a=>cg tj aa (aa) fun j e0=>bD.bp ⟨_,Md.aB a cj e1⟩ j) M<|cG 14 aa ag (fun _=>mv) (fun _=>M) ?_
 refine Gm 15 aa ag aa (c7 LY (xj B H {F with bC:=F.bC++ [(⟨x,(if r.getD 0 []=dA then 2 else 1:Nat),(decide (r.getD 2 []= [89])),F.rules.length,n⟩:dP)],rules:=F.rules++xs} G aD rest bV seen (⟨x,(if r.getD 0 []=dA then 2 else 1:Nat),(decide (r.getD 2 []= [89])),F.rules.length,n⟩:dP) aY B dF tv aA.drew (aK.wk (Md.refl _ _).drew) (bj.wk (Md.refl _ _).drew) a6 (by show (if r.getD 0 []=dA then 2 else 1)=1∨(if r.getD 0 []=dA then 2 else 1)=2; split <;> simp) (hT15.wk (Md.refl _ _).drew) fd.2) aa fun gw fC ex=> ?_) fun c w' A aS J=>by obtain ⟨e,he,h,h2⟩:=A; exact ⟨_,_,zk ae aW aV bz (aU.bad ab dn he),h,cP.trans<|Wk.mw<|jb h2⟩
 obtain ⟨q,ct,fc,⟨vn,rfl,c5⟩,bF⟩:=ex
 obtain ⟨a4,a5,rfl⟩:=c5.slice
 have bF:=jb bF
 have cY:(fun w'=>Md (fun k=>G.v12.ownBlock=some k) aA w') fC:=Md.mono bF fun _ _ h=>h.elim
 refine ⟨cY,?_⟩
 refine ja 16 aa ag<|nM xq aa aa aa fun fT fD f4 ca dL=> ?_
 have a9:=bF.trans ca.md
 have Y:=aK.wk a9
 have cS:=bj.wk a9
 have eH:=eE.wk a9
 have da:=Wk.aB a9 cj
 have eR:=c5.wk ca.md
 have gm:=(bY.1 cS.cells).1
 have cZ:(fun w'=>Md (fun k=>G.v12.ownBlock=some k) aA w') fD:=cY.trans' ca.md fun _ _ h=>h.elim
 refine ⟨cZ,?_⟩
 refine ja 17 aa ag<|ap xq (Y.eo) aa ab aa (aG.fV dL) (aa) (aa) (by simp only [bK]; omega) (by simp only [bK]; omega) fun v131 ds df aL gr ga=> ?_
 have eg:=(cP.trans<|Wk.mw a9).trans<|Mw.of aL (TF.own Y.eo aw) fun k hk=>(cV Y.eo hk).1
 have eB:=cD.own cS Y.eo aL aw
 have bu:=aL.aB Y.cells<|dx Y.eo Y.cells aw
 have ck:=aL.aB da<|dx Y.eo da aw
 have eI:=eH.md aL<|jD Y.eo aw
 have e3:bq ds B 134 7 v131 ((F.rules++xs)++ [q]).length (fX<|((F.rules++xs)++ [q]).zip<|G.rn++ [.slice a4 q.next.length a5]):=by
  have fB:(F.rules++xs).length=G.rn.length:=by have :=Y.nx.1; rw [e8] at this; exact this.symm
  rw [List.zip_append fB,show fX ((F.rules++xs).zip G.rn++ [q].zip [.slice a4 q.next.length a5])=fX ((F.rules++xs).zip G.rn)++dC (q,.slice a4 q.next.length a5) from by simp [fX],bK]
  exact df
 have bJ:(fun w'=>Md (fun k=>G.v12.ownBlock=some k) aA w') ds:=cZ.trans' aL fun _ _ h=>h
 refine ⟨bJ,?_⟩
 refine cG 18 aa ag (fun _=>nc aa) (fun _=>bJ)<|cG 19 aa ag (fun _=>fa fU aa) (fun _=>bJ)<|cG 20 aa ag (fun _=>fa na aa) (fun _=>bJ)<|dq 21 aa ag ag<|dy Eh aa aa (v:=v131) (eM df) bu (by show _ < 14; omega) fun aZ ak b7=> ?_
 have dV:=c8.KU (x:=q) (vx:= .slice a4 q.next.length a5) Y eR aL e3 ak b7
 have aP:=cD.vY eB bu ak
 have dc:=ak.aB ck fun h=>by rw [h,bu] at ck; cases ck
 have eJ:=eI.md ak<|ic bu aw
 have ej:=eg.trans<|Mw.of ak (TF.eq (dD bu) aw) fun k hk=>hk ▸ Y.lo.1
 refine eK ag<|tn<|d0 _ _ ?_
 have aq:(fun w'=>Md (fun k=>aD.vn.ownBlock=some k) aZ w') aZ.drew:=(Md.refl _ _).drew
 refine eL (fun w'=>Md (fun k=>aD.vn.ownBlock=some k) aZ w') 13 aa wide aq<|cG 0 aa ag (fun _=>aJ (.pointer<|some ⟨H.rb,0,none⟩) aa) (fun _=>aq)<|cG 1 aa ag (fun _=>aJ (.pointer<|some ⟨H.rb,0,none⟩) aa) (fun _=>aq)<|cG 2 aa ag (fun _=>nc aa) (fun _=>aq)<|cG 3 aa ag (fun _=>fa zZ aa) (fun _=>aq)<|jS 4 aa ag (fun w' a=>ld vt aa<|Md.aM a ((a7 aP.cells).trans aa)<|dx aP.on aP.cells aw) aq<|cG 5 aa ag (fun _=>aJ (.pointer<|some ⟨H.rb,0,none⟩) aa) (fun _=>aq)<|cG 6 aa ag (fun _=>nc aa) (fun _=>aq)<|cG 7 aa ag (fun _=>fa tS aa) (fun _=>aq)<|jS 8 aa ag (fun w' a=>ld bO aa<|Md.aM a ((a7 aP.cells).trans aa)<|dx aP.on aP.cells aw) aq<|ja 9 aa ag<|lK nq aa aa fun fW dt f6 er dN=> ?_
 have aH:=jb er.md
 have Z:=aP.wk aH
 have cL:=dV.wk aH
 have gp:=(bY.1 Z.cells).1
 have c0:(fun w'=>Md (fun k=>aD.vn.ownBlock=some k) aZ w') dt:=Md.mono aH fun _ _ h=>h.elim
 refine ⟨c0,?_⟩
 refine ja 10 aa ag<|ap nq (Z.on) aa ab aa (aG.fV dN) (aa) (aa) (by simp only [bK]; omega) (by simp only [bK]; omega) fun v145 b0 dg aN gt gb=> ?_
 have el:=(ej.trans<|Wk.mw aH).trans<|Mw.of aN (TF.own Z.on aw) fun k hk=>(cV Z.on hk).1
 have c4:TF dt [5] (fun k=>aD.vn.ownBlock=some k):=TF.own Z.on aw
 have cM:=cL.md aN c4 aw fun h=>by obtain ⟨f,cp,_⟩:=cL.cm; exact c4.no (dK cp) aw h
 have bv:=aN.aB Z.cells<|dx Z.on Z.cells aw
 have cl:=aN.aB (Wk.aB aH dc)<|dx Z.on (Wk.aB aH dc) aw
 have eQ:=(eJ.wk aH).md aN<|jD Z.on aw
 have e4:bq b0 B 3 1 v145 ((F.rules++xs)++ [q]).length (((F.rules++xs)++ [q]).map fun r=>fG .i64 (r.line:Nat)):=by
  rw [iw,bK]
  show bq b0 B 3 1 v145 _ (_++ [fG .i64 (q.line:Nat)])
  rw [fc]
  exact dg
 have ce:(fun w'=>Md (fun k=>aD.vn.ownBlock=some k) aZ w') b0:=c0.trans' aN fun _ _ h=>h
 refine ⟨ce,?_⟩
 refine cG 11 aa ag (fun _=>nc aa) (fun _=>ce)<|cG 12 aa ag (fun _=>fa zZ aa) (fun _=>ce)<|dq 13 aa ag ag<|dy Eo aa aa (v:=v145) (eM dg) bv (by show _ < 7; omega) fun bW bf dJ=> ?_
 have c3:TF b0 [169] (fun k=>k=H.rb):=TF.eq (dD bv) aw
 have dW:=cM.md bf c3 aw fun h=>by obtain ⟨f,cp,_⟩:=cM.cm; exact c3.no (dK cp) aw h
 exact eK ag<|bn<|tn<|dX _ _<|rg aa<|p (ad aa aa<|cC ab)<|p mv<|nl<|tn<|⟨_,ab,i+1,xs++ [q],rest,bV,{G with v12:=v131,rn:=G.rn++ [.slice a4 q.next.length a5]},{aD with vn:=v145},ab,(by rw [show n - (i+1)=n - i - 1 by omega]; exact aU.step ab dn ct),(by rw [bK,fA]; rfl),(by rw [← dZ]; exact dW),(by rw [← dZ]; exact cD.Tk (q:=q) Z aN e4 bf dJ aa fun _=>rfl),(⟨by simp only [bK,iR]; omega,a6.sl,a6.row,a6.kd,a6.al⟩),(el.trans<|Mw.of bf (TF.eq (dD bv) aw) fun k hk=>hk ▸ Z.lo.1),(bf.aB cl fun h=>by rw [h,bv] at cl; cases cl),(eQ.md bf<|ic bv aw),aa,aa,aa,aa,aa,aa⟩
 refine ext<|te _<|te _<|be<|iW<|f0 aa ?_
 rw [show n - i=0 by omega] at aU
 exact ⟨aa,_,rows',bU,Np ae aW aV bz aU.done,⟨G,R',cJ,ax,a8⟩,cN⟩
end Go.Hb.qm
end
section
namespace Go.Hb
open Go.Hb.qm Go.Hb.pw
def rQ:dP:=⟨0,0,false,0,0⟩
theorem P2 {x:Nat} :∀ {cs:List dP} {i:Nat},cs.findIdx? (fun c=>decide (c.flag=x))=some i→∃ c,cs[i]? =some c∧dM cs x=some c:=by
 intro cs
 induction cs with
 | nil=>intro i h; simp at h
 | cons a l C=>
   intro i h
   rw [List.findIdx?_cons] at h
   unfold dM
   rw [JB]
   by_cases q:a.flag=x
   · simp only [q,decide_true,if_true] at h ⊢
     cases h
     exact ⟨a,aa,aa⟩
   · simp only [q,decide_false] at h ⊢
     simp only [Bool.false_eq_true,if_false,Option.map_eq_some_iff] at h
     obtain ⟨j,A,rfl⟩:=h
     obtain ⟨c,h1,h2⟩:=C A
     exact ⟨c,by simpa using h1,h2⟩
theorem Tz {F:aC} {x:Nat} (h:x=F.sp.getD 0 0):mz F x=true :=by unfold mz; rw [decide_eq_true h]; rfl
theorem TA {F:aC} {x:Nat} (h:(dM F.bC x).isSome=true) (hk:((dM F.bC x).getD rQ).kind=2):mz F x=true :=by
 unfold mz
 obtain ⟨c,a⟩:=l9.1 h
 rw [a] at hk ⊢
 simp only [Ke] at hk
 simp [hk]
theorem AX {F:aC} {x:Nat} (a:x≠F.sp.getD 0 0) (h:(dM F.bC x).isSome=true) (hk:((dM F.bC x).getD rQ).kind≠2):mz F x=false :=by
 unfold mz
 obtain ⟨c,q⟩:=l9.1 h
 rw [q] at hk ⊢
 simp only [Ke] at hk
 rw [decide_eq_false a]
 simp [hk]
theorem AY {F:aC} {x:Nat} (a:x≠F.sp.getD 0 0) (h:(dM F.bC x).isSome=false):mz F x=false :=by
 unfold mz
 rw [decide_eq_false a]
 cases hc:dM F.bC x with
 | none=>rfl
 | some c=>rw [hc] at h; cases h
theorem rJ {F:aC} {q:cK} {j:Nat} (a:j < q.next.length) (h:mz F (q.next.getD j 0)=false):nL F q=true :=by
 unfold nL
 rw [List.any_eq_true]
 exact ⟨_,eZ a,by rw [h]; rfl⟩
theorem Lf {F:aC} {q:cK} (h:∀ j,j < q.next.length→mz F (q.next.getD j 0)=true):nL F q=false :=by
 unfold nL
 rw [List.any_eq_false]
 intro x c
 obtain ⟨j,a,rfl⟩:=oN 0 c
 rw [h j a]; simp
theorem rX {p:cK→Bool} {q:cK} :∀ {l:List cK} {i:Nat},(∀ j c,j < i→l[j]? =some c→p c=false)→l[i]? =some q→p q=true→l.find? p=some q:=by
 intro l
 induction l with
 | nil=>intro i _ h; simp at h
 | cons a l E=>
   intro i A hi hp
   rw [JB]
   cases i with
   | zero=>simp only [ym,Option.some.injEq] at hi; subst hi; rw [hp]
   | succ i=>
     rw [A 0 a ab rfl]
     exact E (i:=i) (fun j c G C=>A (j+1) c ab<|by simpa using C) (by simpa using hi) hp
theorem P5 {p:cK→Bool} {l:List cK} (h:∀ j c,j < l.length→l[j]? =some c→p c=false):l.find? p=none:=by
 rw [Cs]
 intro q A
 obtain ⟨j,a⟩:=rj A
 rw [h j q (eQ.1 a).1 a]; simp
theorem P3 {x:Nat} {cs:List dP} (h:cs.findIdx? (fun c=>decide (c.flag=x))=none):dM cs x=none:=by
 rw [JC] at h
 unfold dM
 rw [Cs]
 intro c a
 simpa using h c a
theorem zH (B fb mc:Nat) (F:aC) (V:eh) (x:Nat) (w:World) (q:c8 w B fb mc F V) (aN:F.bC.length≤70000):
 bf ao 136 (ba [aU fb,aX x]) w (fun v w'=>v= .tuple #[.agg (mW<|(dM F.bC x).getD rQ).toArray,.bool (dM F.bC x).isSome]∧Wk w w'):=by
 obtain ⟨ah,kr,O⟩:=cT q.gh
 have J:=q.gh
 rw [O] at J
 have aq:Hb.aM w.heap fb 11=some (.slice ah F.bC.length kr):=by rw [← O]; exact (a7 q.cells).trans rfl
 obtain ⟨f,ax,aA⟩:=q.cm
 obtain ⟨iv,ob,aB,aF,G⟩:∃ (iv:Nat) (ob:Bool),(f<|aX x).getD (.int .i64 0)=aj iv∧(f<|aX x).isSome=ob∧((ob=false∧dM F.bC x=none)∨(ob=true∧∃ c,F.bC[iv]? =some c∧dM F.bC x=some c)):=by
  rw [aA x]
  cases hfi:F.bC.findIdx? (fun c=>decide (c.flag=x)) with
  | none=>exact ⟨0,false,rfl,rfl,.inl ⟨rfl,P3 hfi⟩⟩
  | some i=>exact ⟨i,true,rfl,rfl,.inr ⟨rfl,P2 hfi⟩⟩
 refine enter func136 aa ntmps136 aa<|ak fun Y=>e<|al sJ fun aJ aO aK a E=>ay<|Y<|az fun Z=>az fun ac=>rg aa<|au (aU fb)<|p (lN uA aa aa)<|nl<|ac<|cf (aa)<|aR<|Z<|ak fun ad=>au (aU fb)<|p (nc aa)<|p (fa Fk aa)<|p (ld ti aa<|Wk.aM a.md<|(a7 q.cells).trans aa)<|au (aX x)<|p (Gu qU mH qJ (ax.wk a.md) aa aa (⟨_,aa⟩) (aB)<|aF)<|p mv<|p (xt aa aa)<|p (xt aa aa)<|p aE<|ay<|ad<|az fun ae=>ak fun ag=>p mv<|p (no aa)<|nl<|ag<|cb aa (fun C=> ?_) fun C=> ?_
 have aH:ob=false :=by simpa using C
 have aw:dM F.bC x=none:=by rcases G with ⟨_,h⟩ | ⟨h,_⟩; exact h; rw [aH] at h; cases h
 exact ak fun A=>p (di (ps:= []) (L:= [.int .u16 0,.int .i64 0,.bool false,.int .i64 0,.int .i64 0]) Bt aa<|aa)<|e<|cM qA aa aa aa aa (E) (by simp) fun aP an ai=>ay<|A<|rt<|tr<|fg aa (dV (cs:=mW rQ) aa tj aa fun j aD=>ai.bp j) eE<|⟨by rw [aw]; rfl,a.md.trans' an fun k hk h=>by omega⟩
 have aI:ob=true :=by simpa using C
 obtain ⟨c,I,av⟩:∃ c,F.bC[iv]? =some c∧dM F.bC x=some c:=by rcases G with ⟨h,_⟩ | ⟨_,h⟩; rw [aI] at h; cases h; exact h
 have aL:=(eQ.1 I).1
 have M:=a8 J a.md
 exact aR<|ae<|ak fun A=>au (aU fb)<|p (nc aa)<|p (fa fU aa)<|p (fa rZ aa)<|p (ld vu aa<|Wk.aM a.md aq)<|p mv<|p (bd PS aa aa ab<|aG.ok ((a6 M).2) fun h=>by have :=congrArg mL h; rw [show (mm F.bC).length=F.bC.length*5 from mr (f:=mW) (m:=5) (fun _=>rfl) _] at this; simp at this; omega)<|p (cg tj aa (aa)<|gr (f:=mW) (m:=5) (fun _=>rfl) (a6 M).2 I)<|e<|cM qA aa aa aa aa (E) (by simp) fun aQ ap am=>ay<|A<|rt<|fg aa (dV (cs:=mW c) aa tj aa fun j aD=>am.bp j) eE<|⟨by rw [av]; rfl,a.md.trans' ap fun k hk h=>by omega⟩
theorem Nb (B:Nat) (H:cy) (F:aC) (rows:List Rw) (ln:Nat) (seen:List Tx) (w:World) (bB:St w B H F rows ln seen) (bL:∀ q∈F.rules,q.next.length≤64):
 eG ao 76 (ba [.pointer (some ⟨H.rb,0,none⟩)]) w (fun v w'=>v= .tuple #[]∧F.rules.find? (nL F)=none∧(∃ V R' ax,c8 w' B H.fb H.mc F V∧cD w' B H F R' rows ax seen)∧eF B H w w') (fun c w'=> ∃ q,F.rules.find? (nL F)=some q∧c=ij 45 q.line 118∧eF B H w w'):=by
 obtain ⟨V,R,M,aq,a5⟩:=bB
 obtain ⟨a12,aA,aS⟩:=cT M.eo
 have bM:=M.eo
 rw [aS] at bM
 have bE:Hb.aM w.heap H.fb 12=some (.slice a12 F.rules.length aA):=by rw [← aS]; exact (a7 M.cells).trans rfl
 obtain ⟨vr,vs,vn⟩:=R
 obtain ⟨am,cv,b7⟩:=cT aq.on
 obtain rfl :vn= .slice am F.rules.length cv:=b7
 have cz:=a5.len
 have cA:=aq.lo
 refine jw func76 aa ntmps76 aa<|sq fun cb bi=>rg aa<|p (aJ (.pointer<|some ⟨H.rb,0,none⟩) aa)<|p (nc aa)<|p (fa gu aa)<|p (ld eX aa<|(a7 aq.cells).trans aa)<|p (nc aa)<|p (fa fU aa)<|p (fa na aa)<|p (ld jM aa<|bE)<|p (bP pX aa aa)<|p mv<|nl<|tn<|bi _ _<|aB<|lp (fun ac ak aj=> ∃ (i ax:Nat),(i≤F.rules.length)∧(∀ j q,j < i→F.rules[j]? =some q→nL F q=false)∧(c8 aj B H.fb H.mc F V)∧(cD aj B H F ⟨vr,vs,.slice am F.rules.length cv⟩ rows ax seen)∧(eF B H w aj)∧(ak 0= .pointer (some ⟨H.rb,0,none⟩))∧(ak 15= .slice a12 F.rules.length aA)∧(ak 16= .int .i64 (F.rules.length:Nat))∧(ak 17= .int .i64 (i:Nat))∧(F.rules.length - i=ac)) _ ⟨0,ln,ab,(fun j q aZ=>by omega),M,aq,(Md.refl _ _),aa,aa,aa,aa,aa⟩ ?_
 rintro ac ak aj ⟨i,ax,hi,I,ap,aK,aU,bS,bT,bU,bV,rfl⟩
 refine fx 0 bS<|fx 15 bT<|fx 16 bU<|fx 17 bV<|sq fun ch bl=>rg aa<|p (lt aa aa)<|nl<|tn<|bl _ _<|sq fun ci bm=>cd aa (fun bF=> ?_) fun bF=> ?_
 refine aR<|tn<|bm _ _<|sq fun ck bo=>aB<|sq fun cm bp=> ?_
 have aO:=ap.eo
 rw [aS] at aO
 have aY:i < F.rules.length:=ab
 obtain ⟨vn,b6,aN⟩:=dE.get ap.nx (i:=i)<|by rw [e8]; exact aY
 obtain ⟨q,A⟩:∃ q,F.rules[i]? =some q:=⟨_,bW aY⟩
 have bQ:(F.rules.map (·.next)).getD i []=q.next:=by rw [cR,fH,A]; rfl
 rw [bQ] at aN
 have cE:=bL q<|fz A
 obtain ⟨az,aD,rfl⟩:=aN.slice
 have a0:(F.rules.zip V.rn)[i]? =some (q,.slice az q.next.length aD):=by rw [jg]; exact ⟨A,b6⟩
 have a1:(fX<|F.rules.zip V.rn).length=(F.rules.zip V.rn).length*7:=mr (f:=dC) (m:=7) (fun _=>rfl) _
 have bK:(F.rules.map fun r=>fG .i64 (r.line:Nat))[i]? =some (.int .i64 (q.line:Nat)):=by rw [fH,A]; rfl
 refine rg aa<|p (aJ (.int .i64 (i:Nat)) aa)<|p (bd ky aa aa ab<|aG.ok ((a6 aO).2) (fun h=>by rw [h] at a1; have h2:0=(F.rules.zip V.rn).length*7:=a1; have h3:=(eQ.1 a0).1; omega)) ?_
 refine p (cg ju aa (aa)<|gr (f:=dC) (m:=7) (fun _=>rfl) (a6 aO).2 a0)<|e<|al oW fun cs cH cu aW a9=> ?_
 skip
 refine p (cj (.int .i64 (i:Nat)) aa)<|e<|cM mZ aa aa aa aa (a9) (by simp) fun ca bu a8=> ?_
 have an:Wk aj ca:=aW.md.trans' bu fun k hk h=>by omega
 have bg:=ap.wk an
 have C:=aK.wk an
 have cF:=aW.size
 have cB:=(bY.1 aK.cells).1
 refine nl<|tn<|bp _ _<|sq fun cn bq=>rg aa<|p (aJ (.pointer<|some ⟨H.rb,0,none⟩) aa)<|p (aJ (.pointer<|some ⟨H.rb,0,none⟩) aa)<|p (nc aa)<|p (fa zZ aa)<|p (ld vt aa<|(a7 C.cells).trans aa)<|p (aJ (.int .i64 (i:Nat)) aa)<|p (bd oH aa aa ab<|aG.ok ((a6 C.on).2)<|by simp; intro h; rw [h] at A; simp at A)<|p (ld bO aa<|aG.jk (a6 C.on).2 bK)<|p (nc aa)<|p (fa tS aa)<|e<|dy jN aa aa (v:= .int .i64 (q.line:Nat)) aa C.cells (by show _ < 7; decide) fun cK ag bf=> ?_
 have bA:=C.cY (R':=⟨vr,vs,.slice am F.rules.length cv⟩) (ln':=q.line) ag bf rfl C.rws C.rt
 have bh:=bg.rb C ag
 have bD:=ag.B a8 fun h=>by omega
 have bC:=(aN.wk an).md ag<|ic C.cells aw
 have bw:=(aU.trans<|Wk.mw an).trans<|eF.rb C ag
 refine nl<|tn<|bq _ _<|sq fun co br=>rg aa<|p (fa pN aa)<|p (ld mh aa<|(bD.aM 6).trans aa)<|p (bP n4 aa aa)<|p mv<|nl<|tn<|br _ _<|aB<|lp (fun ac J Z=> ∃ (j:Nat),(j≤q.next.length)∧(∀ ai,ai < j→mz F (q.next.getD ai 0)=true)∧(c8 Z B H.fb H.mc F V)∧(cD Z B H F ⟨vr,vs,.slice am F.rules.length cv⟩ rows q.line seen)∧(eF B H w Z)∧(Tg Z B 95 q.next.length (.slice az q.next.length aD)<|q.next.map aX)∧(J 0= .pointer (some ⟨H.rb,0,none⟩))∧(J 15= .slice a12 F.rules.length aA)∧(J 16= .int .i64 (F.rules.length:Nat))∧(J 17= .int .i64 (i:Nat))∧(J 33= .slice az q.next.length aD)∧(J 34= .int .i64 (q.next.length:Nat))∧(J 35= .int .i64 (j:Nat))∧(q.next.length - j=ac)) _ ⟨0,ab,(fun ai bH=>by omega),bh,bA,bw,bC,aa,aa,aa,aa,aa,aa,aa,aa⟩ ?_
 rintro ac J Z ⟨j,aZ,aP,aH,aL,aV,au,bX,b0,b1,b2,b3,b4,b5,rfl⟩
 refine fx 0 bX<|fx 15 b0<|fx 16 b1<|fx 17 b2<|fx 33 b3<|fx 34 b4<|fx 35 b5<|sq fun cp bs=>rg aa<|p (lt aa aa)<|nl<|tn<|bs _ _<|sq fun cq bt=>cd aa (fun bG=> ?_) fun bG=> ?_
 refine aR<|tn<|bt _ _<|sq fun cc aI=>aB<|sq fun ce bj=> ?_
 have b8:(q.next.map aX)[j]? =some (aX<|q.next.getD j 0):=by rw [fH,cR,bW (by omega :j < q.next.length)]; rfl
 refine rg aa<|p (bd bJ aa aa ab<|aG.ok (au.dG.2)<|db ab)<|p (ld bZ aa<|aG.jk au.dG.2 b8)<|p aE<|nl<|tn<|bj _ _<|sq fun cf bk=>rg aa<|p (aJ (.pointer<|some ⟨H.rb,0,none⟩) aa)<|p (nc aa)<|p (fa gu aa)<|p (ld eX aa<|(a7 aL.cells).trans aa)<|p mv<|e<|cl yR (zH B H.fb H.mc F V (q.next.getD j 0) _ aH ab) aa fun v45 cI bz=> ?_
 obtain ⟨rfl,aT⟩:=bz
 have cG:=aT.size
 refine p mv<|p (xt aa aa)<|p (xt aa aa)<|e<|al sJ fun ct cJ cx bx bb=>e<|cM qA aa aa aa aa (bb) (by simp) fun ay bv bc=> ?_
 have ae:Wk Z ay:=(aT.trans bx.md).trans' bv fun k hk h=>by omega
 have aF:=aH.wk ae
 have Y:=aL.wk ae
 have E:=aV.trans<|Wk.mw ae
 refine p aE<|nl<|tn<|bk _ _<|rg aa<|p (aJ (.pointer<|some ⟨H.rb,0,none⟩) aa)<|p mv<|p (aJ (.pointer<|some ⟨H.rb,0,none⟩) aa)<|p (nc aa)<|p (fa gu aa)<|p (ld eX aa<|(a7 Y.cells).trans aa)<|p (nc aa)<|p (fa fU aa)<|p (fa wh aa)<|p (lS tp aa aa ab)<|p (ld bZ aa<|(a7 aF.cells).trans aa)<|p (cw aa aa)<|p mv<|gs (t:=60) aa (fun O=> ?_) fun O=> ?_
 refine sk aa aa aa aa<|sk aa aa aa aa<|xp aa aa aa<|xp aa aa aa<|xp aa aa aa<|sk aa aa aa aa<|p (bR aa) ?_
 refine eP aa (c7 gy (gD H.rb q.line _ 118 ay Y.ei aw) aa fun a2 a3 ah=> ?_) (fun c w' a a4 M=>by
  first
   | exact absurd a.2.1 aw
   | exact ⟨q,rX I A (rJ (j:=j) ab<|AX (fun h=>O<|by rw [h]) G<|by have :=of_decide_eq_false a.2.1; omega),a.1,by rw [a.2.2]; exact E⟩
   | exact ⟨q,rX I A (rJ (j:=j) ab<|AY (fun h=>O<|by rw [h])<|by simpa using G),a.1,by rw [a.2.2]; exact E⟩)
 obtain ⟨rfl,av,rfl⟩:=ah
 exact nl<|bn<|tn<|aI _ _<|rg aa<|p (ad aa aa<|cC ab)<|p mv<|nl<|tn<|⟨_,ab,j+1,ab,(fun k hk=>by rcases jh k j with h | h <;> first | exact aP k h | (rw [show k=j by omega]; exact Tz ab)),aF,Y,E,(au.wk ae),aa,aa,aa,aa,aa,aa,aa,aa⟩
 refine pg aa aa aa mv<|pg aa aa aa mv<|gb (t:=62) aa (fun G=> ?_) fun G=> ?_
 refine pg aa aa aa (fa tU aa)<|pg aa aa aa (ld bO aa<|(bc.aM 1).trans aa)<|pg aa aa aa (cw aa aa)<|pg aa aa aa (bR aa)<|p (bI aa) ?_
 refine eP aa (c7 gy (gD H.rb q.line _ 118 ay Y.ei aw) aa fun a2 a3 ah=> ?_) (fun c w' a a4 M=>by
  first
   | exact absurd a.2.1 aw
   | exact ⟨q,rX I A (rJ (j:=j) ab<|AX (fun h=>O<|by rw [h]) G<|by have :=of_decide_eq_false a.2.1; omega),a.1,by rw [a.2.2]; exact E⟩
   | exact ⟨q,rX I A (rJ (j:=j) ab<|AY (fun h=>O<|by rw [h])<|by simpa using G),a.1,by rw [a.2.2]; exact E⟩)
 obtain ⟨rfl,av,rfl⟩:=ah
 exact nl<|bn<|tn<|aI _ _<|rg aa<|p (ad aa aa<|cC ab)<|p mv<|nl<|tn<|⟨_,ab,j+1,ab,(fun k hk=>by rcases jh k j with h | h <;> first | exact aP k h | (rw [show k=j by omega]; exact TA G<|by have :=of_decide_eq_true av; omega)),aF,Y,E,(au.wk ae),aa,aa,aa,aa,aa,aa,aa,aa⟩
 refine sk aa aa aa aa<|sk aa aa aa aa<|sk aa aa aa aa<|pg aa aa aa (bI aa)<|p (bI aa) ?_
 refine eP aa (c7 gy (gD H.rb q.line _ 118 ay Y.ei aw) aa fun a2 a3 ah=> ?_) (fun c w' a a4 M=>by
  first
   | exact absurd a.2.1 aw
   | exact ⟨q,rX I A (rJ (j:=j) ab<|AX (fun h=>O<|by rw [h]) G<|by have :=of_decide_eq_false a.2.1; omega),a.1,by rw [a.2.2]; exact E⟩
   | exact ⟨q,rX I A (rJ (j:=j) ab<|AY (fun h=>O<|by rw [h])<|by simpa using G),a.1,by rw [a.2.2]; exact E⟩)
 obtain ⟨rfl,av,rfl⟩:=ah
 exact nl<|bn<|tn<|aI _ _<|rg aa<|p (ad aa aa<|cC ab)<|p mv<|nl<|tn<|absurd av aw
 exact ext<|te _<|te _<|be<|bn<|tn<|bo _ _<|rg aa<|p (ad aa aa<|cC ab)<|p mv<|nl<|tn<|⟨_,ab,i+1,q.line,ab,(fun k b9 hk aQ=>by rcases jh k i with h | h <;> first | exact I k b9 h aQ | (rw [show k=i by omega,A] at aQ; cases aQ; exact Lf fun ai bH=>aP ai ab)),aH,aL,aV,aa,aa,aa,aa,aa⟩
 refine ext<|te _<|te _<|be<|iW<|f0 aa ?_
 exact ⟨aa,P5 (fun j q aZ bN=>I j q ab bN),⟨V,_,_,ap,aK⟩,aU⟩
end Go.Hb
end
namespace Go.Hb
def Nx (F:aC):Prop :=(∀ l∈F.aliases,l.length≤64)∧∀ q∈F.rules,q.next.length≤64
theorem Af {α:Type} {hd:List Tx} {rd:Nat→List Tx→Except Nat α} {eof:Nat} :∀ (n:Nat) (rows:List Rw) (r:List α×List Rw),group hd rd eof n rows= .ok r→∀ x∈r.1,∃ ln row,rd ln row= .ok x:=by
 intro n
 induction n with
 | zero=>intro rows r h; simp only [group,qX] at h; subst h; intro x a; cases a
 | succ n c=>
   intro rows r h
   cases rows with
   | nil=>simp [group] at h
   | cons q rows=>
     obtain ⟨ln,row⟩:=q
     simp only [group] at h
     split at h
     · cases h
     · cases hr:rd ln row with
       | error e=>rw [hr] at h; cases h
       | ok y=>
         rw [hr] at h
         simp only at h
         cases hg:group hd rd eof n rows with
         | error e=>rw [hg] at h; cases h
         | ok A=>
           rw [hg] at h
           simp only [qX] at h
           subst h
           intro x a
           rcases eB.1 a with a | a
           · exact ⟨ln,row,by rw [a]; exact hr⟩
           · exact c rows A hg x a
theorem FC {kind:Nat} {s:Tx} {l:List Nat} (h:kQ kind s= .ok l):l.length≤64:=by
 unfold kQ at h
 split at h
 · cases h
 · rename_i a
   cases h
   exact (Fz<|mI.1 a).1
theorem KC {kind ln:Nat} {row:List Tx} {l:List Nat} (h:mi kind ln row= .ok l):l.length≤64:=by
 unfold mi at h
 split at h
 · cases h
 · exact FC h
theorem zP {kind:Nat} {al:List (List Nat)} {s:Tx} {l:List Nat} (a:∀ l∈al,l.length≤64) (h:gd kind al s= .ok l):l.length≤64:=by
 unfold gd at h
 split at h
 · exact FC h
 · split at h
   · cases h
   · split at h
     · cases h
     · cases h
       rename_i n _ _
       rw [cR]
       cases hg:al[n - 1]? with
       | none=>simp
       | some x=>exact a x<|fz hg
theorem UT {kind ln:Nat} {al:List (List Nat)} {c:dP} {row:List Tx} {q:cK} (A:∀ l∈al,l.length≤64) (h:jn kind al c ln row= .ok q):q.next.length≤64:=by
 unfold jn at h
 split at h
 · cases h
 · split at h
   · cases h
   · split at h
     · cases h
     · split at h
       · cases h
       · rename_i nx a
         split at h
         · cases h
         · cases h
           unfold nk at a
           split at a
           · split at a
             · cases a
             · exact zP A a
           · cases a; simp
theorem Ai {eof ln:Nat} {F F':aC} {hs:List Tx} {rows rows':List Rw} {row:List Tx} (h:Nx F) (a:ca eof F hs rows ln row= .ok (F',rows')):Nx F':=by
 unfold ca at a
 split at a
 · unfold jV at a
   split at a
   · cases a
   · cases a; exact h
 · split at a
   · unfold kB at a
     split at a
     · cases a
     · split at a
       · cases a
       · cases a; exact h
   · split at a
     · unfold mD at a
       split at a
       · cases a
       · cases a; exact h
     · split at a
       · unfold mE at a
         split at a
         · cases a
         · cases a; exact h
       · split at a
         · unfold kE at a
           split at a
           · cases a
           · split at a
             · cases a
             · cases a; exact h
         · split at a
           · unfold kH at a
             split at a
             · cases a
             · split at a
               · cases a
               · cases a; exact h
           · split at a
             · unfold j6 at a
               split at a
               · cases a
               · split at a
                 · cases a
                 · split at a
                   · cases a
                   · rename_i r C
                     cases a
                     refine ⟨fun l c=> ?_,h.2⟩
                     rcases js.1 c with c | c
                     · exact h.1 l c
                     · obtain ⟨_,_,h2⟩:=Af _ _ _ C l c
                       exact KC h2
             · unfold gV at a
               split at a
               · cases a
               · split at a
                 · cases a
                 · split at a
                   · cases a
                   · split at a
                     · cases a
                     · split at a
                       · cases a
                       · rename_i r C
                         cases a
                         refine ⟨h.1,fun q A=> ?_⟩
                         rcases js.1 A with A | A
                         · exact h.2 q A
                         · obtain ⟨_,_,h2⟩:=Af _ _ _ C q A
                           exact UT h.1 h2
theorem Rl {eof ln:Nat} {F F':aC} {hs:List Tx} {rows rows':List Rw} {row:List Tx} (c:row.getD 0 []∉gi) (a:ca eof F hs rows ln row= .ok (F',rows')):F'.sp=F.sp:=by
 unfold ca at a
 rw [if_neg c] at a
 unfold kB mD mE kE kH j6 gV at a
 repeat' split at a
 all_goals first
  | (cases a; done)
  | (cases a; rfl)
theorem FW {eof ln:Nat} {F F':aC} {seen:List Tx} {rows rows':List Rw} {row:List Tx} (h:jK F seen) (c:ca eof F seen rows ln row= .ok (F',rows')):jK F' (seen++ [row.getD 0 []]):=by
 intro k hk A
 rw [js,List.mem_singleton] at A
 have E:k∉seen:=fun h=>A<|.inl h
 have G:k≠row.getD 0 []:=fun h=>A<|.inr h
 by_cases q:row.getD 0 []∈gi
 · unfold ca at c
   rw [if_pos q] at c
   unfold jV at c
   split at c
   · cases c
   · cases c
     show (F.sp.set (gi.idxOf<|row.getD 0 []) _).getD (gi.idxOf k) 0=0
     rw [cR,kh,if_neg,← cR]
     · exact h k hk E
     · intro he
       have C:∀ a∈gi,gi.getD (gi.idxOf a) []=a:=aw
       have h1:=C _ q
       have h2:=C _ hk
       rw [he] at h1
       exact G<|h2.symm.trans h1
 · rw [Rl q c]; exact h k hk E
def gC (s:Tx):Option Value:=if s=dA then some (bB #[.int .i64 (4:Nat),.func (.func 134) #[] #[]]) else if s=iZ then some (bB #[.int .i64 (4:Nat),.func (.func 134) #[] #[]]) else if s=iX then some (bB #[.int .i64 (2:Nat),.func (.func 133) #[] #[]]) else if s=jy then some (bB #[.int .i64 (2:Nat),.func (.func 132) #[] #[]]) else if s=lV then some (bB #[.int .i64 (2:Nat),.func (.func 131) #[] #[]]) else if s=lf then some (bB #[.int .i64 (2:Nat),.func (.func 130) #[] #[]]) else if s=kR then some (bB #[.int .i64 (2:Nat),.func (.func 130) #[] #[]]) else if s=kA then some (bB #[.int .i64 (2:Nat),.func (.func 130) #[] #[]]) else if s=j9 then some (bB #[.int .i64 (2:Nat),.func (.func 130) #[] #[]]) else if s=jR then some (bB #[.int .i64 (2:Nat),.func (.func 130) #[] #[]]) else if s=jz then some (bB #[.int .i64 (2:Nat),.func (.func 129) #[] #[]]) else if s=jl then some (bB #[.int .i64 (2:Nat),.func (.func 128) #[] #[]]) else if s=iY then some (bB #[.int .i64 (2:Nat),.func (.func 127) #[] #[]]) else none
def zF:Value→Option Value:=fun _=>none
def zG:Tx→Option Value:=fun _=>none
theorem str_inj {a b:Tx} :str a=str b↔a=b:=⟨fun h=>by unfold str at h; cases h; rfl,fun h=>by rw [h]⟩
theorem lZ {f:Value→Option Value} {g:Tx→Option Value} {k:Tx} {v:Value} (h:∀ s,f (str s)=g s) (s:Tx):bA f (str k) v (str s)=if s=k then some v else g s:=by
 by_cases hs:s=k
 · subst hs; rw [mA,if_pos rfl]
 · rw [kU (fun h2=>hs<|str_inj.1 h2),if_neg hs,h s]
theorem Rm (w:World):
 bf ao 73 (ba []) w (fun v w'=> ∃ b,v= .map (some b)∧b=w.heap.size∧(∃ f,bS w'.heap b ik f∧∀ s,f (str s)=gC s)∧Wk w w'):=by
 refine enter func73 aa ntmps73 aa<|ak fun ac=>ay<|ac<|ak fun ad=>e<|qM fun a c bk aO ae=> ?_
 have aP:bS c.heap a ik zF:=bS.nil ae
 have bl:∀ s:Tx,zF (str s)=zG s:=fun _=>rfl
 have ag:Wk w c:=aO.md
 refine p (di (ps:= [(0,aj 2),(1,.func (.func 127) #[] #[])]) (L:= [aj 2,.func (.func 127) #[] #[]]) l3 aa<|aa)<|e<|lU lx gL (aP) aa aa aa (⟨_,aa⟩) fun I aG aV=> ?_
 have a3:bS I.heap a ik (bA zF (str iY)<|bB #[aj 2,.func (.func 127) #[] #[]]):=aV
 have bm:=lZ (k:=iY) (v:=bB #[aj 2,.func (.func 127) #[] #[]]) bl
 have ah:Wk w I:=ag.trans' aG fun k hk h=>by omega
 refine p (di (ps:= [(0,aj 2),(1,.func (.func 128) #[] #[])]) (L:= [aj 2,.func (.func 128) #[] #[]]) l3 aa<|aa)<|e<|lU lx gL (a3) aa aa aa (⟨_,aa⟩) fun Y aL a0=> ?_
 have a4:bS Y.heap a ik (bA (bA zF (str iY)<|bB #[aj 2,.func (.func 127) #[] #[]]) (str jl)<|bB #[aj 2,.func (.func 128) #[] #[]]):=a0
 have br:=lZ (k:=jl) (v:=bB #[aj 2,.func (.func 128) #[] #[]]) bm
 have ap:Wk w Y:=ah.trans' aL fun k hk h=>by omega
 refine p (di (ps:= [(0,aj 2),(1,.func (.func 129) #[] #[])]) (L:= [aj 2,.func (.func 129) #[] #[]]) l3 aa<|aa)<|e<|lU lx gL (a4) aa aa aa (⟨_,aa⟩) fun Z aM a1=> ?_
 have a8:bS Z.heap a ik (bA (bA (bA zF (str iY)<|bB #[aj 2,.func (.func 127) #[] #[]]) (str jl)<|bB #[aj 2,.func (.func 128) #[] #[]]) (str jz)<|bB #[aj 2,.func (.func 129) #[] #[]]):=a1
 have bs:=lZ (k:=jz) (v:=bB #[aj 2,.func (.func 129) #[] #[]]) br
 have aq:Wk w Z:=ap.trans' aM fun k hk h=>by omega
 refine p (di (ps:= [(0,aj 2),(1,.func (.func 130) #[] #[])]) (L:= [aj 2,.func (.func 130) #[] #[]]) l3 aa<|aa)<|e<|lU lx gL (a8) aa aa aa (⟨_,aa⟩) fun ab aN a2=> ?_
 have a9:bS ab.heap a ik (bA (bA (bA (bA zF (str iY)<|bB #[aj 2,.func (.func 127) #[] #[]]) (str jl)<|bB #[aj 2,.func (.func 128) #[] #[]]) (str jz)<|bB #[aj 2,.func (.func 129) #[] #[]]) (str jR)<|bB #[aj 2,.func (.func 130) #[] #[]]):=a2
 have bt:=lZ (k:=jR) (v:=bB #[aj 2,.func (.func 130) #[] #[]]) bs
 have au:Wk w ab:=aq.trans' aN fun k hk h=>by omega
 refine p (di (ps:= [(0,aj 2),(1,.func (.func 130) #[] #[])]) (L:= [aj 2,.func (.func 130) #[] #[]]) l3 aa<|aa)<|e<|lU lx gL (a9) aa aa aa (⟨_,aa⟩) fun q aB aQ=> ?_
 have bb:bS q.heap a ik (bA (bA (bA (bA (bA zF (str iY)<|bB #[aj 2,.func (.func 127) #[] #[]]) (str jl)<|bB #[aj 2,.func (.func 128) #[] #[]]) (str jz)<|bB #[aj 2,.func (.func 129) #[] #[]]) (str jR)<|bB #[aj 2,.func (.func 130) #[] #[]]) (str j9)<|bB #[aj 2,.func (.func 130) #[] #[]]):=aQ
 have bu:=lZ (k:=j9) (v:=bB #[aj 2,.func (.func 130) #[] #[]]) bt
 have av:Wk w q:=au.trans' aB fun k hk h=>by omega
 refine p (di (ps:= [(0,aj 2),(1,.func (.func 130) #[] #[])]) (L:= [aj 2,.func (.func 130) #[] #[]]) l3 aa<|aa)<|e<|lU lx gL (bb) aa aa aa (⟨_,aa⟩) fun A aC aR=> ?_
 have bd:bS A.heap a ik (bA (bA (bA (bA (bA (bA zF (str iY)<|bB #[aj 2,.func (.func 127) #[] #[]]) (str jl)<|bB #[aj 2,.func (.func 128) #[] #[]]) (str jz)<|bB #[aj 2,.func (.func 129) #[] #[]]) (str jR)<|bB #[aj 2,.func (.func 130) #[] #[]]) (str j9)<|bB #[aj 2,.func (.func 130) #[] #[]]) (str kA)<|bB #[aj 2,.func (.func 130) #[] #[]]):=aR
 have bv:=lZ (k:=kA) (v:=bB #[aj 2,.func (.func 130) #[] #[]]) bu
 have aw:Wk w A:=av.trans' aC fun k hk h=>by omega
 refine p (di (ps:= [(0,aj 2),(1,.func (.func 130) #[] #[])]) (L:= [aj 2,.func (.func 130) #[] #[]]) l3 aa<|aa)<|e<|lU lx gL (bd) aa aa aa (⟨_,aa⟩) fun C aD aS=> ?_
 have bg:bS C.heap a ik (bA (bA (bA (bA (bA (bA (bA zF (str iY)<|bB #[aj 2,.func (.func 127) #[] #[]]) (str jl)<|bB #[aj 2,.func (.func 128) #[] #[]]) (str jz)<|bB #[aj 2,.func (.func 129) #[] #[]]) (str jR)<|bB #[aj 2,.func (.func 130) #[] #[]]) (str j9)<|bB #[aj 2,.func (.func 130) #[] #[]]) (str kA)<|bB #[aj 2,.func (.func 130) #[] #[]]) (str kR)<|bB #[aj 2,.func (.func 130) #[] #[]]):=aS
 have bw:=lZ (k:=kR) (v:=bB #[aj 2,.func (.func 130) #[] #[]]) bv
 have ax:Wk w C:=aw.trans' aD fun k hk h=>by omega
 refine p (di (ps:= [(0,aj 2),(1,.func (.func 130) #[] #[])]) (L:= [aj 2,.func (.func 130) #[] #[]]) l3 aa<|aa)<|e<|lU lx gL (bg) aa aa aa (⟨_,aa⟩) fun E aE aT=> ?_
 have bh:bS E.heap a ik (bA (bA (bA (bA (bA (bA (bA (bA zF (str iY)<|bB #[aj 2,.func (.func 127) #[] #[]]) (str jl)<|bB #[aj 2,.func (.func 128) #[] #[]]) (str jz)<|bB #[aj 2,.func (.func 129) #[] #[]]) (str jR)<|bB #[aj 2,.func (.func 130) #[] #[]]) (str j9)<|bB #[aj 2,.func (.func 130) #[] #[]]) (str kA)<|bB #[aj 2,.func (.func 130) #[] #[]]) (str kR)<|bB #[aj 2,.func (.func 130) #[] #[]]) (str lf)<|bB #[aj 2,.func (.func 130) #[] #[]]):=aT
 have bx:=lZ (k:=lf) (v:=bB #[aj 2,.func (.func 130) #[] #[]]) bw
 have az:Wk w E:=ax.trans' aE fun k hk h=>by omega
 refine p (di (ps:= [(0,aj 2),(1,.func (.func 131) #[] #[])]) (L:= [aj 2,.func (.func 131) #[] #[]]) l3 aa<|aa)<|e<|lU lx gL (bh) aa aa aa (⟨_,aa⟩) fun G aF aU=> ?_
 have bi:bS G.heap a ik (bA (bA (bA (bA (bA (bA (bA (bA (bA zF (str iY)<|bB #[aj 2,.func (.func 127) #[] #[]]) (str jl)<|bB #[aj 2,.func (.func 128) #[] #[]]) (str jz)<|bB #[aj 2,.func (.func 129) #[] #[]]) (str jR)<|bB #[aj 2,.func (.func 130) #[] #[]]) (str j9)<|bB #[aj 2,.func (.func 130) #[] #[]]) (str kA)<|bB #[aj 2,.func (.func 130) #[] #[]]) (str kR)<|bB #[aj 2,.func (.func 130) #[] #[]]) (str lf)<|bB #[aj 2,.func (.func 130) #[] #[]]) (str lV)<|bB #[aj 2,.func (.func 131) #[] #[]]):=aU
 have bz:=lZ (k:=lV) (v:=bB #[aj 2,.func (.func 131) #[] #[]]) bx
 have aA:Wk w G:=az.trans' aF fun k hk h=>by omega
 refine p (di (ps:= [(0,aj 2),(1,.func (.func 132) #[] #[])]) (L:= [aj 2,.func (.func 132) #[] #[]]) l3 aa<|aa)<|e<|lU lx gL (bi) aa aa aa (⟨_,aa⟩) fun J aH aW=> ?_
 have bj:bS J.heap a ik (bA (bA (bA (bA (bA (bA (bA (bA (bA (bA zF (str iY)<|bB #[aj 2,.func (.func 127) #[] #[]]) (str jl)<|bB #[aj 2,.func (.func 128) #[] #[]]) (str jz)<|bB #[aj 2,.func (.func 129) #[] #[]]) (str jR)<|bB #[aj 2,.func (.func 130) #[] #[]]) (str j9)<|bB #[aj 2,.func (.func 130) #[] #[]]) (str kA)<|bB #[aj 2,.func (.func 130) #[] #[]]) (str kR)<|bB #[aj 2,.func (.func 130) #[] #[]]) (str lf)<|bB #[aj 2,.func (.func 130) #[] #[]]) (str lV)<|bB #[aj 2,.func (.func 131) #[] #[]]) (str jy)<|bB #[aj 2,.func (.func 132) #[] #[]]):=aW
 have bn:=lZ (k:=jy) (v:=bB #[aj 2,.func (.func 132) #[] #[]]) bz
 have ai:Wk w J:=aA.trans' aH fun k hk h=>by omega
 refine p (di (ps:= [(0,aj 2),(1,.func (.func 133) #[] #[])]) (L:= [aj 2,.func (.func 133) #[] #[]]) l3 aa<|aa)<|e<|lU lx gL (bj) aa aa aa (⟨_,aa⟩) fun M aI aX=> ?_
 have a5:bS M.heap a ik (bA (bA (bA (bA (bA (bA (bA (bA (bA (bA (bA zF (str iY)<|bB #[aj 2,.func (.func 127) #[] #[]]) (str jl)<|bB #[aj 2,.func (.func 128) #[] #[]]) (str jz)<|bB #[aj 2,.func (.func 129) #[] #[]]) (str jR)<|bB #[aj 2,.func (.func 130) #[] #[]]) (str j9)<|bB #[aj 2,.func (.func 130) #[] #[]]) (str kA)<|bB #[aj 2,.func (.func 130) #[] #[]]) (str kR)<|bB #[aj 2,.func (.func 130) #[] #[]]) (str lf)<|bB #[aj 2,.func (.func 130) #[] #[]]) (str lV)<|bB #[aj 2,.func (.func 131) #[] #[]]) (str jy)<|bB #[aj 2,.func (.func 132) #[] #[]]) (str iX)<|bB #[aj 2,.func (.func 133) #[] #[]]):=aX
 have bo:=lZ (k:=iX) (v:=bB #[aj 2,.func (.func 133) #[] #[]]) bn
 have al:Wk w M:=ai.trans' aI fun k hk h=>by omega
 refine p (di (ps:= [(0,aj 4),(1,.func (.func 134) #[] #[])]) (L:= [aj 4,.func (.func 134) #[] #[]]) l3 aa<|aa)<|e<|lU lx gL (a5) aa aa aa (⟨_,aa⟩) fun O aJ aY=> ?_
 have a6:bS O.heap a ik (bA (bA (bA (bA (bA (bA (bA (bA (bA (bA (bA (bA zF (str iY)<|bB #[aj 2,.func (.func 127) #[] #[]]) (str jl)<|bB #[aj 2,.func (.func 128) #[] #[]]) (str jz)<|bB #[aj 2,.func (.func 129) #[] #[]]) (str jR)<|bB #[aj 2,.func (.func 130) #[] #[]]) (str j9)<|bB #[aj 2,.func (.func 130) #[] #[]]) (str kA)<|bB #[aj 2,.func (.func 130) #[] #[]]) (str kR)<|bB #[aj 2,.func (.func 130) #[] #[]]) (str lf)<|bB #[aj 2,.func (.func 130) #[] #[]]) (str lV)<|bB #[aj 2,.func (.func 131) #[] #[]]) (str jy)<|bB #[aj 2,.func (.func 132) #[] #[]]) (str iX)<|bB #[aj 2,.func (.func 133) #[] #[]]) (str iZ)<|bB #[aj 4,.func (.func 134) #[] #[]]):=aY
 have bp:=lZ (k:=iZ) (v:=bB #[aj 4,.func (.func 134) #[] #[]]) bo
 have am:Wk w O:=al.trans' aJ fun k hk h=>by omega
 refine p (di (ps:= [(0,aj 4),(1,.func (.func 134) #[] #[])]) (L:= [aj 4,.func (.func 134) #[] #[]]) l3 aa<|aa)<|e<|lU lx gL (a6) aa aa aa (⟨_,aa⟩) fun V aK aZ=> ?_
 have a7:bS V.heap a ik (bA (bA (bA (bA (bA (bA (bA (bA (bA (bA (bA (bA (bA zF (str iY)<|bB #[aj 2,.func (.func 127) #[] #[]]) (str jl)<|bB #[aj 2,.func (.func 128) #[] #[]]) (str jz)<|bB #[aj 2,.func (.func 129) #[] #[]]) (str jR)<|bB #[aj 2,.func (.func 130) #[] #[]]) (str j9)<|bB #[aj 2,.func (.func 130) #[] #[]]) (str kA)<|bB #[aj 2,.func (.func 130) #[] #[]]) (str kR)<|bB #[aj 2,.func (.func 130) #[] #[]]) (str lf)<|bB #[aj 2,.func (.func 130) #[] #[]]) (str lV)<|bB #[aj 2,.func (.func 131) #[] #[]]) (str jy)<|bB #[aj 2,.func (.func 132) #[] #[]]) (str iX)<|bB #[aj 2,.func (.func 133) #[] #[]]) (str iZ)<|bB #[aj 4,.func (.func 134) #[] #[]]) (str dA)<|bB #[aj 4,.func (.func 134) #[] #[]]):=aZ
 have bq:=lZ (k:=dA) (v:=bB #[aj 4,.func (.func 134) #[] #[]]) bp
 have an:Wk w V:=am.trans' aK fun k hk h=>by omega
 exact p mv<|ay<|ad<|rt<|bc aa<|⟨a,aa,bk,⟨_,a7,fun s=>bq s⟩,an⟩
theorem Uo (E G:Nat) (w:World):
 CallsD ao 72 (ba [.pointer (some ⟨E,0,none⟩),.pointer (some ⟨G,0,none⟩)]) .returning w (fun en I w'=> ∃ v,en= .returned v∧I= .returning∧(fun w'=>Wk w w') w'):=by
 refine DW (v:= .nilIface) func72 aa ntmps72 aa (fun O cs C=> .inr ⟨by simp [recoverD,C],aa,aa⟩) ?_
 refine p (VV AH Xr aa)<|p mv<|p (xt aa aa)<|p (xt aa aa)<|e<|al oc fun M Z Y A a=>e<|cM iV aa aa aa aa (a) (by simp) fun ab q V=>p aE<|nl<|tn<|sq fun J c=>rg aa<|p mv<|nl<|tn<|c _ _<|cf (aa)<|aR<|f0 aa ?_
 exact A.md.trans' q fun k hk h=>by omega
theorem Un (a c:Nat) (ln:Nat) (er:Int) (w:World) (h2:∃ v:Value,w.heap[a]? =some (.cells [v].toArray 88 (0,0))) (h3:∃ L:List Value,L.length=3∧w.heap[c]? =some (.cells L.toArray 45 (0,0))) (V:a≠c):
 CallsD ao 72 (ba [.pointer (some ⟨a,0,none⟩),.pointer (some ⟨c,0,none⟩)]) (.panicking<|ij 45 ln er) w (fun en ap w'=> ∃ v,en= .returned v∧ap=(.panicking [{v:= .iface 45 (.agg [.int .i64 1,.int .i64 (ln:Nat),.int .i64 er].toArray),recovered:=true}])∧(fun w'=>w'.heap[a]? =some (.cells [.pointer none].toArray 88 (0,0))∧w'.heap[c]? =some (.cells [.int .i64 1,.int .i64 (ln:Nat),.int .i64 er].toArray 45 (0,0))∧Md (fun k=>k=a∨k=c) w w') w'):=by
 obtain ⟨v2,h2⟩:=h2
 obtain ⟨J,ai,h3⟩:=h3
 have az:=(bY.1 h2).1
 have aA:=(bY.1 h3).1
 refine DW (v:= .iface 45<|.agg [.int .i64 1,.int .i64 (ln:Nat),.int .i64 er].toArray) func72 aa ntmps72 aa (fun aw cs am=> .inl<|by simp [recoverD,am,ij]) ?_
 refine p (VU AH aa)<|p mv<|p (xt aa aa)<|p (xt aa aa)<|e<|al oc fun Y aC ax G ac=>e<|cM iV aa aa aa aa (ac) (by simp) fun q A Z=> ?_
 have ae:bD q.heap Y [.int .i64 1,.int .i64 (ln:Nat),.int .i64 er]:=Z
 refine p aE<|nl<|tn<|sq fun av ah=>rg aa<|p mv<|nl<|tn<|ah _ _<|ct (aa) ?_
 have I:(fun w'=>Md (fun k=>k=a∨k=c) q w') q.drew:=(Md.refl _ _).drew
 refine bT (fun w'=>Md (fun k=>k=a∨k=c) q w') aa wide I<|hp 0 aa ag (fun w' aj=>cg kq aa (aa) fun j ay=>bD.bp (Md.B aj ae fun h=>by omega) j) I<|he 1 aa ag<|dy zr aa aa (v:= .pointer none) aa (A.aB (Wk.aB G.md h2) fun h=>by omega) (by show 0 < 1; decide) fun aq C ad=> ?_
 have O:(fun w'=>Md (fun k=>k=a∨k=c) q w') aq:=I.trans' C fun _ _ h=> .inl h
 refine ⟨O,?_⟩
 refine he 2 aa ag<|fY iV aa aa aa aa (C.aB (A.aB (Wk.aB G.md h3) fun h=>by omega) fun h=>V h.symm) (by rw [ai]; decide) fun au E M=> ?_
 have ak:(fun w'=>Md (fun k=>k=a∨k=c) q w') au:=O.trans' E fun _ _ h=> .inr h
 refine ⟨ak,?_⟩
 refine hn ag<|f0 aa ?_
 have an:J.take 0 ++ [fG .i64 1,.int .i64 (ln:Nat),.int .i64 er]++J.drop (0 +3)= [fG .i64 1,.int .i64 (ln:Nat),.int .i64 er]:=by rw [lC ab]; rfl
 rw [an] at M
 exact ⟨E.aB ad V,M,(((G.md.mono fun _ _ h=>h.elim).trans' A fun k hk h=>by omega).trans' (jb C) fun _ _ h=> .inl h).trans' E fun _ _ h=> .inr h⟩
theorem Hj (a c:Nat) (w:World):(invoke (.fn (.func 72) #[aU a,aU c]) #[]).run ao w= .ok (.enter 72 #[aU a,aU c]) w:=by
 have h:=ML #[aU a,aU c] w
 simp [invoke,h]
theorem vV {n:Nat} {D:List Deferred} {G:List Nat} {σ:Nat→Value} {t:Nat} (h:t < n):ev ⟨n,D,G,none⟩ σ (.tmp t)=σ t:=by
 show cond (Nat.blt t n) (σ t) undef=_
 rw [show Nat.blt t n=true from by simpa using h]; rfl
theorem Us {n:Nat} {G:List Nat} {fn:Func} {R:Value→World→Prop} {σ:Nat→Value} {w:World} {a c ln:Nat} {er:Int} (I:fn.results= #[.cell 2 88,.cell 3 45]) (O:3 < n) (J:σ 2= .pointer (some ⟨a,0,none⟩)) (M:σ 3= .pointer (some ⟨c,0,none⟩)) (h2:∃ v:Value,w.heap[a]? =some (.cells [v].toArray 88 (0,0))) (h3:∃ L:List Value,L.length=3∧w.heap[c]? =some (.cells L.toArray 45 (0,0))) (E:a≠c)
 (q:∀ w',Md (fun k=>k=a∨k=c) w w'→R (.tuple #[.pointer none,.agg [.int .i64 1,.int .i64 (ln:Nat),.int .i64 er].toArray]) w'):qb ⟨n,[{target:= .fn (.func 72) #[.pointer (some ⟨a,0,none⟩),.pointer (some ⟨c,0,none⟩)],args:= #[]}],G,none⟩ (po ao fn R) (.panic<|ij 45 ln er) σ w:=by
 refine PX (Hj a c w) (Un a c ln er w h2 h3 E) ?_
 rintro w' ⟨A,C,hm⟩
 exact ⟨_,xi I (mC<|Ba ((vV ab).trans J) eX<|(a7 A).trans aa) (mC<|dV (cs:= [.int .i64 1,.int .i64 (ln:Nat),.int .i64 er]) ((vV ab).trans M) kq aa fun j _=>by rw [fQ,a7 C]; simp),q w' hm⟩
theorem Ut {n:Nat} {G:List Nat} {fn:Func} {R:Value→World→Prop} {σ:Nat→Value} {w:World} {a c:Nat} {v:Value} {L:List Value} (I:fn.results= #[.cell 2 88,.cell 3 45]) (O:3 < n) (J:σ 2= .pointer (some ⟨a,0,none⟩)) (M:σ 3= .pointer (some ⟨c,0,none⟩)) (h2:w.heap[a]? =some (.cells [v].toArray 88 (0,0))) (h3:w.heap[c]? =some (.cells L.toArray 45 (0,0))) (q:L.length=3)
 (A:∀ w',Wk w w'→R (.tuple #[v,.agg L.toArray]) w'):qb ⟨n,[{target:= .fn (.func 72) #[.pointer (some ⟨a,0,none⟩),.pointer (some ⟨c,0,none⟩)],args:= #[]}],G,none⟩ (po ao fn R) .ret σ w:=by
 refine PW (Hj a c w) (Uo a c w) ?_
 intro w' hm
 have C:=Wk.aB hm h2
 have E:=Wk.aB hm h3
 exact ⟨_,xi I (mC<|Ba ((vV ab).trans J) eX<|(a7 C).trans aa) (mC<|dV (cs:=L) ((vV ab).trans M) kq q fun j _=>by rw [fQ,a7 E]; simp),A w' hm⟩
end Go.Hb
section
namespace Go.Hb
open Go.Hb.qm
theorem Q5 (B:Nat) (H:cy) (F:aC) (rows:List Rw) (ln:Nat) (seen:List Tx) (r:List Tx) (a:Nat) (ar:Option Addr) (cr:Nat) (w:World) (c:St w B H F rows ln seen) (q:Tg w a 9 r.length (.slice ar r.length cr) (r.map str)) (A:∀ x∈r,x.length≤70000) (hw:r.length=width (r.getD 0 [])) (G:jK F seen) (E:width (r.getD 0 [])=2→r.getD 0 []∉seen) (C:F.du.length+F.aliases.length+F.bC.length+F.rules.length+rows.length < 70000) (hk:r.getD 0 []=iY):eG ao 127 (ba [.pointer (some ⟨H.rb,0,none⟩),.slice ar r.length cr]) w (iG B H seen (ca H.eof F seen rows ln r) w) (iF B H (ca H.eof F seen rows ln r) w):=by
 have h:=Sd B H F rows ln seen r a ar cr w c q (by rw [hw,hk]; decide) A
 rw [show ca H.eof F seen rows ln r=kB F seen rows ln r from by unfold ca; rw [hk]; rfl]
 exact h
theorem Re (B:Nat) (H:cy) (F:aC) (rows:List Rw) (ln:Nat) (seen:List Tx) (r:List Tx) (a:Nat) (ar:Option Addr) (cr:Nat) (w:World) (c:St w B H F rows ln seen) (q:Tg w a 9 r.length (.slice ar r.length cr) (r.map str)) (A:∀ x∈r,x.length≤70000) (hw:r.length=width (r.getD 0 [])) (G:jK F seen) (E:width (r.getD 0 [])=2→r.getD 0 []∉seen) (C:F.du.length+F.aliases.length+F.bC.length+F.rules.length+rows.length < 70000) (hk:r.getD 0 []=jl):eG ao 128 (ba [.pointer (some ⟨H.rb,0,none⟩),.slice ar r.length cr]) w (iG B H seen (ca H.eof F seen rows ln r) w) (iF B H (ca H.eof F seen rows ln r) w):=by
 have h:=M8 B H F rows ln seen r a ar cr w c q (by rw [hw,hk]; decide) A
 rw [show ca H.eof F seen rows ln r=mD F rows ln r from by unfold ca; rw [hk]; rfl]
 exact h
theorem Rg (B:Nat) (H:cy) (F:aC) (rows:List Rw) (ln:Nat) (seen:List Tx) (r:List Tx) (a:Nat) (ar:Option Addr) (cr:Nat) (w:World) (c:St w B H F rows ln seen) (q:Tg w a 9 r.length (.slice ar r.length cr) (r.map str)) (A:∀ x∈r,x.length≤70000) (hw:r.length=width (r.getD 0 [])) (G:jK F seen) (E:width (r.getD 0 [])=2→r.getD 0 []∉seen) (C:F.du.length+F.aliases.length+F.bC.length+F.rules.length+rows.length < 70000) (hk:r.getD 0 []=jz):eG ao 129 (ba [.pointer (some ⟨H.rb,0,none⟩),.slice ar r.length cr]) w (iG B H seen (ca H.eof F seen rows ln r) w) (iF B H (ca H.eof F seen rows ln r) w):=by
 have h:=Wo B H F rows ln seen r a ar cr w c q (by rw [hw,hk]; decide) A
 rw [show ca H.eof F seen rows ln r=mE F rows ln r from by unfold ca; rw [hk]; rfl]
 exact h
theorem Q9 (B:Nat) (H:cy) (F:aC) (rows:List Rw) (ln:Nat) (seen:List Tx) (r:List Tx) (a:Nat) (ar:Option Addr) (cr:Nat) (w:World) (c:St w B H F rows ln seen) (q:Tg w a 9 r.length (.slice ar r.length cr) (r.map str)) (C:∀ x∈r,x.length≤70000) (hw:r.length=width (r.getD 0 [])) (E:jK F seen) (A:width (r.getD 0 [])=2→r.getD 0 []∉seen) (G:F.du.length+F.aliases.length+F.bC.length+F.rules.length+rows.length < 70000) (hk:r.getD 0 []=jR):eG ao 130 (ba [.pointer (some ⟨H.rb,0,none⟩),.slice ar r.length cr]) w (iG B H seen (ca H.eof F seen rows ln r) w) (iF B H (ca H.eof F seen rows ln r) w):=by
 have h:=uw B H F rows ln seen r a ar cr w c q (by rw [hw,hk]; decide) C (by rw [hk]; decide)<|E _ (by rw [hk]; decide)<|A<|by rw [hk]; decide
 rw [show ca H.eof F seen rows ln r=jV F rows ln r from by unfold ca; rw [hk]; rfl]
 exact h
theorem Q6 (B:Nat) (H:cy) (F:aC) (rows:List Rw) (ln:Nat) (seen:List Tx) (r:List Tx) (a:Nat) (ar:Option Addr) (cr:Nat) (w:World) (c:St w B H F rows ln seen) (q:Tg w a 9 r.length (.slice ar r.length cr) (r.map str)) (C:∀ x∈r,x.length≤70000) (hw:r.length=width (r.getD 0 [])) (E:jK F seen) (A:width (r.getD 0 [])=2→r.getD 0 []∉seen) (G:F.du.length+F.aliases.length+F.bC.length+F.rules.length+rows.length < 70000) (hk:r.getD 0 []=j9):eG ao 130 (ba [.pointer (some ⟨H.rb,0,none⟩),.slice ar r.length cr]) w (iG B H seen (ca H.eof F seen rows ln r) w) (iF B H (ca H.eof F seen rows ln r) w):=by
 have h:=uw B H F rows ln seen r a ar cr w c q (by rw [hw,hk]; decide) C (by rw [hk]; decide)<|E _ (by rw [hk]; decide)<|A<|by rw [hk]; decide
 rw [show ca H.eof F seen rows ln r=jV F rows ln r from by unfold ca; rw [hk]; rfl]
 exact h
theorem Q7 (B:Nat) (H:cy) (F:aC) (rows:List Rw) (ln:Nat) (seen:List Tx) (r:List Tx) (a:Nat) (ar:Option Addr) (cr:Nat) (w:World) (c:St w B H F rows ln seen) (q:Tg w a 9 r.length (.slice ar r.length cr) (r.map str)) (C:∀ x∈r,x.length≤70000) (hw:r.length=width (r.getD 0 [])) (E:jK F seen) (A:width (r.getD 0 [])=2→r.getD 0 []∉seen) (G:F.du.length+F.aliases.length+F.bC.length+F.rules.length+rows.length < 70000) (hk:r.getD 0 []=kA):eG ao 130 (ba [.pointer (some ⟨H.rb,0,none⟩),.slice ar r.length cr]) w (iG B H seen (ca H.eof F seen rows ln r) w) (iF B H (ca H.eof F seen rows ln r) w):=by
 have h:=uw B H F rows ln seen r a ar cr w c q (by rw [hw,hk]; decide) C (by rw [hk]; decide)<|E _ (by rw [hk]; decide)<|A<|by rw [hk]; decide
 rw [show ca H.eof F seen rows ln r=jV F rows ln r from by unfold ca; rw [hk]; rfl]
 exact h
theorem Q4 (B:Nat) (H:cy) (F:aC) (rows:List Rw) (ln:Nat) (seen:List Tx) (r:List Tx) (a:Nat) (ar:Option Addr) (cr:Nat) (w:World) (c:St w B H F rows ln seen) (q:Tg w a 9 r.length (.slice ar r.length cr) (r.map str)) (C:∀ x∈r,x.length≤70000) (hw:r.length=width (r.getD 0 [])) (E:jK F seen) (A:width (r.getD 0 [])=2→r.getD 0 []∉seen) (G:F.du.length+F.aliases.length+F.bC.length+F.rules.length+rows.length < 70000) (hk:r.getD 0 []=kR):eG ao 130 (ba [.pointer (some ⟨H.rb,0,none⟩),.slice ar r.length cr]) w (iG B H seen (ca H.eof F seen rows ln r) w) (iF B H (ca H.eof F seen rows ln r) w):=by
 have h:=uw B H F rows ln seen r a ar cr w c q (by rw [hw,hk]; decide) C (by rw [hk]; decide)<|E _ (by rw [hk]; decide)<|A<|by rw [hk]; decide
 rw [show ca H.eof F seen rows ln r=jV F rows ln r from by unfold ca; rw [hk]; rfl]
 exact h
theorem Ra (B:Nat) (H:cy) (F:aC) (rows:List Rw) (ln:Nat) (seen:List Tx) (r:List Tx) (a:Nat) (ar:Option Addr) (cr:Nat) (w:World) (c:St w B H F rows ln seen) (q:Tg w a 9 r.length (.slice ar r.length cr) (r.map str)) (C:∀ x∈r,x.length≤70000) (hw:r.length=width (r.getD 0 [])) (E:jK F seen) (A:width (r.getD 0 [])=2→r.getD 0 []∉seen) (G:F.du.length+F.aliases.length+F.bC.length+F.rules.length+rows.length < 70000) (hk:r.getD 0 []=lf):eG ao 130 (ba [.pointer (some ⟨H.rb,0,none⟩),.slice ar r.length cr]) w (iG B H seen (ca H.eof F seen rows ln r) w) (iF B H (ca H.eof F seen rows ln r) w):=by
 have h:=uw B H F rows ln seen r a ar cr w c q (by rw [hw,hk]; decide) C (by rw [hk]; decide)<|E _ (by rw [hk]; decide)<|A<|by rw [hk]; decide
 rw [show ca H.eof F seen rows ln r=jV F rows ln r from by unfold ca; rw [hk]; rfl]
 exact h
theorem Q8 (B:Nat) (H:cy) (F:aC) (rows:List Rw) (ln:Nat) (seen:List Tx) (r:List Tx) (a:Nat) (ar:Option Addr) (cr:Nat) (w:World) (c:St w B H F rows ln seen) (q:Tg w a 9 r.length (.slice ar r.length cr) (r.map str)) (A:∀ x∈r,x.length≤70000) (hw:r.length=width (r.getD 0 [])) (G:jK F seen) (E:width (r.getD 0 [])=2→r.getD 0 []∉seen) (C:F.du.length+F.aliases.length+F.bC.length+F.rules.length+rows.length < 70000) (hk:r.getD 0 []=lV):eG ao 131 (ba [.pointer (some ⟨H.rb,0,none⟩),.slice ar r.length cr]) w (iG B H seen (ca H.eof F seen rows ln r) w) (iF B H (ca H.eof F seen rows ln r) w):=by
 have h:=Sg B H F rows ln seen r a ar cr w c q (by rw [hw,hk]; decide) A
 rw [show ca H.eof F seen rows ln r=kE F rows ln r from by unfold ca; rw [hk]; rfl]
 exact h
theorem Rc (B:Nat) (H:cy) (F:aC) (rows:List Rw) (ln:Nat) (seen:List Tx) (r:List Tx) (a:Nat) (ar:Option Addr) (cr:Nat) (w:World) (c:St w B H F rows ln seen) (q:Tg w a 9 r.length (.slice ar r.length cr) (r.map str)) (A:∀ x∈r,x.length≤70000) (hw:r.length=width (r.getD 0 [])) (G:jK F seen) (E:width (r.getD 0 [])=2→r.getD 0 []∉seen) (C:F.du.length+F.aliases.length+F.bC.length+F.rules.length+rows.length < 70000) (hk:r.getD 0 []=jy):eG ao 132 (ba [.pointer (some ⟨H.rb,0,none⟩),.slice ar r.length cr]) w (iG B H seen (ca H.eof F seen rows ln r) w) (iF B H (ca H.eof F seen rows ln r) w):=by
 have h:=UD B H F rows ln seen r a ar cr w c q (by rw [hw,hk]; decide) A
 rw [show ca H.eof F seen rows ln r=kH H.eof F rows ln r from by unfold ca; rw [hk]; rfl]
 exact h
theorem Q3 (B:Nat) (H:cy) (F:aC) (rows:List Rw) (ln:Nat) (seen:List Tx) (r:List Tx) (a:Nat) (ar:Option Addr) (cr:Nat) (w:World) (c:St w B H F rows ln seen) (q:Tg w a 9 r.length (.slice ar r.length cr) (r.map str)) (A:∀ x∈r,x.length≤70000) (hw:r.length=width (r.getD 0 [])) (G:jK F seen) (E:width (r.getD 0 [])=2→r.getD 0 []∉seen) (C:F.du.length+F.aliases.length+F.bC.length+F.rules.length+rows.length < 70000) (hk:r.getD 0 []=iX):eG ao 133 (ba [.pointer (some ⟨H.rb,0,none⟩),.slice ar r.length cr]) w (iG B H seen (ca H.eof F seen rows ln r) w) (iF B H (ca H.eof F seen rows ln r) w):=by
 have h:=KE B H F rows ln seen r a ar cr w c q (by rw [hw,hk]; decide) A
 rw [show ca H.eof F seen rows ln r=j6 H.eof F seen rows ln r from by unfold ca; rw [hk]; rfl]
 exact h
theorem Rb (B:Nat) (H:cy) (F:aC) (rows:List Rw) (ln:Nat) (seen:List Tx) (r:List Tx) (a:Nat) (ar:Option Addr) (cr:Nat) (w:World) (c:St w B H F rows ln seen) (q:Tg w a 9 r.length (.slice ar r.length cr) (r.map str)) (C:∀ x∈r,x.length≤70000) (hw:r.length=width (r.getD 0 [])) (G:jK F seen) (E:width (r.getD 0 [])=2→r.getD 0 []∉seen) (A:F.du.length+F.aliases.length+F.bC.length+F.rules.length+rows.length < 70000) (hk:r.getD 0 []=iZ):eG ao 134 (ba [.pointer (some ⟨H.rb,0,none⟩),.slice ar r.length cr]) w (iG B H seen (ca H.eof F seen rows ln r) w) (iF B H (ca H.eof F seen rows ln r) w):=by
 have h:=D6 B H F rows ln seen r a ar cr w c q (by rw [hw,hk]; decide) C A
 rw [show ca H.eof F seen rows ln r=gV H.eof F rows ln r from by unfold ca; rw [hk]; rfl]
 exact h
theorem Rf (B:Nat) (H:cy) (F:aC) (rows:List Rw) (ln:Nat) (seen:List Tx) (r:List Tx) (a:Nat) (ar:Option Addr) (cr:Nat) (w:World) (c:St w B H F rows ln seen) (q:Tg w a 9 r.length (.slice ar r.length cr) (r.map str)) (C:∀ x∈r,x.length≤70000) (hw:r.length=width (r.getD 0 [])) (G:jK F seen) (E:width (r.getD 0 [])=2→r.getD 0 []∉seen) (A:F.du.length+F.aliases.length+F.bC.length+F.rules.length+rows.length < 70000) (hk:r.getD 0 []=dA):eG ao 134 (ba [.pointer (some ⟨H.rb,0,none⟩),.slice ar r.length cr]) w (iG B H seen (ca H.eof F seen rows ln r) w) (iF B H (ca H.eof F seen rows ln r) w):=by
 have h:=D6 B H F rows ln seen r a ar cr w c q (by rw [hw,hk]; decide) C A
 rw [show ca H.eof F seen rows ln r=gV H.eof F rows ln r from by unfold ca; rw [hk]; rfl]
 exact h
theorem FY (B:Nat) (H:cy) (F:aC) (rows:List Rw) (ln:Nat) (seen:List Tx) (r:List Tx) (c:Nat) (ar:Option Addr) (cr:Nat) (w:World) (q:St w B H F rows ln seen) (A:Tg w c 9 r.length (.slice ar r.length cr) (r.map str)) (G:∀ x∈r,x.length≤70000) (hw:r.length=width (r.getD 0 [])) (I:jK F seen) (E:width (r.getD 0 [])=2→r.getD 0 []∉seen) (C:F.du.length+F.aliases.length+F.bC.length+F.rules.length+rows.length < 70000) {v:Value} (a:gC (r.getD 0 [])=some v):∃ f:Nat,v= .agg [.int .i64 (width (r.getD 0 []):Nat),.func (.func f) #[] #[]].toArray∧bg ao f∧eG ao f (ba [.pointer (some ⟨H.rb,0,none⟩),.slice ar r.length cr]) w (iG B H seen (ca H.eof F seen rows ln r) w) (iF B H (ca H.eof F seen rows ln r) w):=by
 unfold gC at a
 by_cases hk:r.getD 0 []=dA
 · rw [if_pos hk] at a; cases a; exact ⟨_,by rw [hk]; rfl,Dd,Rf B H F rows ln seen r c ar cr w q A G hw I E C hk⟩
 · rw [if_neg hk] at a; clear hk
   by_cases hk:r.getD 0 []=iZ
   · rw [if_pos hk] at a; cases a; exact ⟨_,by rw [hk]; rfl,Dd,Rb B H F rows ln seen r c ar cr w q A G hw I E C hk⟩
   · rw [if_neg hk] at a; clear hk
     by_cases hk:r.getD 0 []=iX
     · rw [if_pos hk] at a; cases a; exact ⟨_,by rw [hk]; rfl,LH,Q3 B H F rows ln seen r c ar cr w q A G hw I E C hk⟩
     · rw [if_neg hk] at a; clear hk
       by_cases hk:r.getD 0 []=jy
       · rw [if_pos hk] at a; cases a; exact ⟨_,by rw [hk]; rfl,LG,Rc B H F rows ln seen r c ar cr w q A G hw I E C hk⟩
       · rw [if_neg hk] at a; clear hk
         by_cases hk:r.getD 0 []=lV
         · rw [if_pos hk] at a; cases a; exact ⟨_,by rw [hk]; rfl,LF,Q8 B H F rows ln seen r c ar cr w q A G hw I E C hk⟩
         · rw [if_neg hk] at a; clear hk
           by_cases hk:r.getD 0 []=lf
           · rw [if_pos hk] at a; cases a; exact ⟨_,by rw [hk]; rfl,tu,Ra B H F rows ln seen r c ar cr w q A G hw I E C hk⟩
           · rw [if_neg hk] at a; clear hk
             by_cases hk:r.getD 0 []=kR
             · rw [if_pos hk] at a; cases a; exact ⟨_,by rw [hk]; rfl,tu,Q4 B H F rows ln seen r c ar cr w q A G hw I E C hk⟩
             · rw [if_neg hk] at a; clear hk
               by_cases hk:r.getD 0 []=kA
               · rw [if_pos hk] at a; cases a; exact ⟨_,by rw [hk]; rfl,tu,Q7 B H F rows ln seen r c ar cr w q A G hw I E C hk⟩
               · rw [if_neg hk] at a; clear hk
                 by_cases hk:r.getD 0 []=j9
                 · rw [if_pos hk] at a; cases a; exact ⟨_,by rw [hk]; rfl,tu,Q6 B H F rows ln seen r c ar cr w q A G hw I E C hk⟩
                 · rw [if_neg hk] at a; clear hk
                   by_cases hk:r.getD 0 []=jR
                   · rw [if_pos hk] at a; cases a; exact ⟨_,by rw [hk]; rfl,tu,Q9 B H F rows ln seen r c ar cr w q A G hw I E C hk⟩
                   · rw [if_neg hk] at a; clear hk
                     by_cases hk:r.getD 0 []=jz
                     · rw [if_pos hk] at a; cases a; exact ⟨_,by rw [hk]; rfl,LD,Rg B H F rows ln seen r c ar cr w q A G hw I E C hk⟩
                     · rw [if_neg hk] at a; clear hk
                       by_cases hk:r.getD 0 []=jl
                       · rw [if_pos hk] at a; cases a; exact ⟨_,by rw [hk]; rfl,LC,Re B H F rows ln seen r c ar cr w q A G hw I E C hk⟩
                       · rw [if_neg hk] at a; clear hk
                         by_cases hk:r.getD 0 []=iY
                         · rw [if_pos hk] at a; cases a; exact ⟨_,by rw [hk]; rfl,LB,Q5 B H F rows ln seen r c ar cr w q A G hw I E C hk⟩
                         · rw [if_neg hk] at a; clear hk
                           cases a
theorem FU {s:Tx} (a:gC s=none):width s=0:=by
 unfold gC at a
 by_cases Y:s=dA
 · rw [if_pos Y] at a; cases a
 · rw [if_neg Y] at a
   by_cases M:s=iZ
   · rw [if_pos M] at a; cases a
   · rw [if_neg M] at a
     by_cases c:s=iX
     · rw [if_pos c] at a; cases a
     · rw [if_neg c] at a
       by_cases O:s=jy
       · rw [if_pos O] at a; cases a
       · rw [if_neg O] at a
         by_cases G:s=lV
         · rw [if_pos G] at a; cases a
         · rw [if_neg G] at a
           by_cases J:s=lf
           · rw [if_pos J] at a; cases a
           · rw [if_neg J] at a
             by_cases q:s=kR
             · rw [if_pos q] at a; cases a
             · rw [if_neg q] at a
               by_cases E:s=kA
               · rw [if_pos E] at a; cases a
               · rw [if_neg E] at a
                 by_cases C:s=j9
                 · rw [if_pos C] at a; cases a
                 · rw [if_neg C] at a
                   by_cases I:s=jR
                   · rw [if_pos I] at a; cases a
                   · rw [if_neg I] at a
                     by_cases Z:s=jz
                     · rw [if_pos Z] at a; cases a
                     · rw [if_neg Z] at a
                       by_cases V:s=jl
                       · rw [if_pos V] at a; cases a
                       · rw [if_neg V] at a
                         by_cases A:s=iY
                         · rw [if_pos A] at a; cases a
                         · rw [if_neg A] at a
                           unfold width gi; simp [A,V,Z,I,C,E,q,J,G,O,c,M,Y]
theorem Ah (s:Tx):gC s=none∨∃ (wd f:Nat),gC s=some (bB #[.int .i64 (wd:Nat),.func (.func f) #[] #[]])∧width s=wd∧wd≠0:=by
 by_cases a:s=dA
 · exact .inr ⟨4,134,by unfold gC; rw [if_pos a],by rw [a]; decide,aw⟩
 by_cases c:s=iZ
 · exact .inr ⟨4,134,by unfold gC; rw [if_neg a,if_pos c],by rw [c]; decide,aw⟩
 by_cases q:s=iX
 · exact .inr ⟨2,133,by unfold gC; rw [if_neg a,if_neg c,if_pos q],by rw [q]; decide,aw⟩
 by_cases A:s=jy
 · exact .inr ⟨2,132,by unfold gC; rw [if_neg a,if_neg c,if_neg q,if_pos A],by rw [A]; decide,aw⟩
 by_cases C:s=lV
 · exact .inr ⟨2,131,by unfold gC; rw [if_neg a,if_neg c,if_neg q,if_neg A,if_pos C],by rw [C]; decide,aw⟩
 by_cases E:s=lf
 · exact .inr ⟨2,130,by unfold gC; rw [if_neg a,if_neg c,if_neg q,if_neg A,if_neg C,if_pos E],by rw [E]; decide,aw⟩
 by_cases G:s=kR
 · exact .inr ⟨2,130,by unfold gC; rw [if_neg a,if_neg c,if_neg q,if_neg A,if_neg C,if_neg E,if_pos G],by rw [G]; decide,aw⟩
 by_cases I:s=kA
 · exact .inr ⟨2,130,by unfold gC; rw [if_neg a,if_neg c,if_neg q,if_neg A,if_neg C,if_neg E,if_neg G,if_pos I],by rw [I]; decide,aw⟩
 by_cases J:s=j9
 · exact .inr ⟨2,130,by unfold gC; rw [if_neg a,if_neg c,if_neg q,if_neg A,if_neg C,if_neg E,if_neg G,if_neg I,if_pos J],by rw [J]; decide,aw⟩
 by_cases M:s=jR
 · exact .inr ⟨2,130,by unfold gC; rw [if_neg a,if_neg c,if_neg q,if_neg A,if_neg C,if_neg E,if_neg G,if_neg I,if_neg J,if_pos M],by rw [M]; decide,aw⟩
 by_cases O:s=jz
 · exact .inr ⟨2,129,by unfold gC; rw [if_neg a,if_neg c,if_neg q,if_neg A,if_neg C,if_neg E,if_neg G,if_neg I,if_neg J,if_neg M,if_pos O],by rw [O]; decide,aw⟩
 by_cases V:s=jl
 · exact .inr ⟨2,128,by unfold gC; rw [if_neg a,if_neg c,if_neg q,if_neg A,if_neg C,if_neg E,if_neg G,if_neg I,if_neg J,if_neg M,if_neg O,if_pos V],by rw [V]; decide,aw⟩
 by_cases Y:s=iY
 · exact .inr ⟨2,127,by unfold gC; rw [if_neg a,if_neg c,if_neg q,if_neg A,if_neg C,if_neg E,if_neg G,if_neg I,if_neg J,if_neg M,if_neg O,if_neg V,if_pos Y],by rw [Y]; decide,aw⟩
 refine .inl ?_
 unfold gC
 rw [if_neg a,if_neg c,if_neg q,if_neg A,if_neg C,if_neg E,if_neg G,if_neg I,if_neg J,if_neg M,if_neg O,if_neg V,if_neg Y]
end Go.Hb
end
namespace Go.Hb.vg
theorem QV {α:Type} {l:List α} {i:Nat} {d:α} (h:i < l.length):l.getD i d∈l:=by
 rw [cR,bW h]; exact List.getElem_mem h
def jm (n:Nat) (a:List (List UInt8)):List (Nat×List UInt8):=(a.zipIdx n).map fun q=>(q.2,q.1)
theorem Tr (n:Nat) (l:List UInt8) (a:List (List UInt8)):jm n (l::a)=(n,l)::jm (n+1) a:=by simp [jm,List.zipIdx_cons]
theorem Ts (n:Nat):jm n []= []:=rfl
theorem AP (n:Nat) (a:List (List UInt8)):(jm n a).map mP=a:=by
 unfold jm; rw [List.map_map]; exact List.zipIdx_map_fst n a
theorem GZ (n:Nat) (a:List (List UInt8)):(jm n a).length=a.length:=by simp [jm]
def vT (x:Nat×List UInt8):Array Value:= #[.int .i64 x.1,str x.2]
theorem AO {a:List (List UInt8)} {n:Nat} {pre:List (Nat×List UInt8)} {x:Nat×List UInt8} {rest:List (Nat×List UInt8)} (h:jm n a=pre++x::rest):pre.length < a.length∧x.1=n+pre.length∧a=pre.map mP++x.2::rest.map mP:=by
 have h1:=congrArg mL h
 rw [GZ,bK,bX] at h1
 have h2:=congrArg (List.map mP) h
 rw [AP,iw,List.map_cons] at h2
 refine ⟨ab,?_,h2⟩
 have h3:=congrArg (fun l=>l[pre.length]?) h
 simp only [jm,fH,List.getElem?_zipIdx,nD (cz _),Nat.sub_self,ym] at h3
 cases h4:a[pre.length]? with
 | none=>rw [h4] at h3; cases h3
 | some q=>rw [h4] at h3; cases h3; rfl
theorem tD (s:List UInt8) (w:World):
 bf ao 125 (ba [str s]) w (fun v w'=> ∃ b,v= .func (.func 189) #[] #[aU b]∧w.heap.size≤b∧w'.heap[b]? =some (.cells [str s].toArray 9 (0,0))∧Wk w w'):=by
 exact enter func125 aa ntmps125 aa<|ak fun a=>e<|qz aa aa fun q G E C A=>ay<|a<|ak fun c=>p AG<|ay<|c<|rt<|bc aa<|⟨q,aa,ab,A,C.md⟩
theorem zy (s:List UInt8) (b:Nat) (hs:s.length≤65536) (l:Nat) (a:List (Nat×List UInt8)→World→Prop) (w:World) (M:a [] w) (aG:∀ pre W,a pre W→W.heap[b]? =some (.cells [str s].toArray 9 (0,0))) (bT:∀ pre q I,a pre q→Wk q I→a pre I) (aM:∀ pre x rest q,(jm 1<|dj s)=pre++x::rest→a pre q→YieldAt Fence.wide 0 ao l (vT x) q fun e W'=>e= .returned (.bool true)∧a (pre++ [x]) W'):
 bf ao 189 (ba [.func (.yield l) #[] #[],aU b]) w (fun v w'=>a (jm 1<|dj s) w'):=by
 have V:=aG _ _ M
 refine enter func189 aa ntmps189 aa<|az fun Z=>ak fun ad=>p (ld cH aa<|(a7 V).trans aa)<|p (dB u9 aa aa)<|p (gt aa aa)<|nl<|ad<|cd aa (fun h=>absurd h ab) fun aO=> ?_
 refine aR<|Z<|ak fun ae=>p (ld cH aa<|(a7 V).trans aa)<|e<|cl Dh (H7 s GB _ ab aw) aa fun v12 aW aA=> ?_
 obtain ⟨rfl,ap⟩:=aA
 refine ay<|ae<|ak fun ag=>ay<|ag<|aB<|lp (fun J C G=> ∃ (r:List UInt8) (pre:List (Nat×List UInt8)),(r.length≤s.length)∧((jm 1<|dj s)=pre++jm (pre.length+1) (fu [] r))∧(a pre G)∧(pre.length≤s.length)∧(C 0= .func (.yield l) #[] #[])∧(C 3=str r)∧(C 4=aj (pre.length+1))∧(r.length=J)) _ ⟨xL s,[],(BJ s),aa,(bT _ _ _ M ap),(Nat.zero_le _),aa,aa,(iv<|by first | rfl | (rw [bK]; rfl)),aa⟩ ?_
 rintro J C G ⟨r,pre,aS,Y,O,aP,aI,aK,aL,rfl⟩
 refine fx 0 aI<|fx 3 aK<|fx 4 aL<|az fun ah=>ak fun ai=>au (str r)<|p (qO aa aa)<|nl<|ai<|cd aa (fun A=> ?_) fun A=> ?_
 have E:(jm 1<|dj s)=pre++(pre.length+1,jO (lM 10 r))::jm (pre.length+2) (fu []<|mY 10 r):=by rw [Y,SE A,Tr]
 have aQ:=Ow (c:=10) A
 have aN:=Ot 10 r
 refine aR<|ah<|az fun al=>aB<|ak fun am=>au (str r)<|e<|cl LW (Ox r 10 _ ab) aa fun aT aX aC=> ?_
 obtain ⟨rfl,aq⟩:=aC
 refine p mv<|p (xt aa aa)<|p (xt aa aa)<|p (xt aa aa)<|p aE<|p aE<|p aE<|nl<|am<|ak fun an=>p mv<|ay<|an<|az fun ac=> ?_
 refine UJ ?_
 refine py aa (aJ (.func (.yield l) #[] #[]) aa)<|py aa (aJ (aj<|pre.length+1) aa)<|py aa mv<|ey aa<|cl Dg (Wj (lM 10 r) _ ab) aa fun aV aY aD=> ?_
 obtain ⟨rfl,av⟩:=aD
 have ax:=bT _ _ _ O<|Md.trans aq av
 refine Xd aa aa (aM pre (pre.length+1,jO (lM 10 r)) _ _ E ax) fun aZ aF=> ?_
 refine py aa (no aa)<|Tl ?_
 refine ac<|cf (aa)<|aR<|bn<|al<|rg aa<|au (aj<|pre.length+1)<|p (bL ((pre.length+2:Nat):Int) aa aa<|bm ab ab) ?_
 exact p aE<|nl<|tn<|⟨_,ab,mY 10 r,pre++ [(pre.length+1,jO (lM 10 r))],ab,(by rw [E,dZ,bK]; rfl),aF,(by have h1:=AO E; have h2:=qK s; rw [bK,iR]; omega),aa,aa,(iv<|by first | rfl | (rw [bK]; rfl)),aa⟩
 refine ext<|bh<|bh<|be<|f0 aa ?_
 show a (jm 1<|dj s) G
 have aH:r= []:=Decidable.of_not_not A
 rw [Y,aH,Gx,Ts,ep]
 exact O
theorem vS (s:List UInt8) (b:Nat) (hs:s.length≤65536):CG ao 189 #[.pointer (some ⟨b,0,none⟩)] vT (jm 1<|dj s) (fun W=>W.heap[b]? =some (.cells [str s].toArray 9 (0,0))):=
 fun l a W c q bT C=>Calls.mono (zy s b hs l a W c q bT C) fun e w' ⟨v,he,A⟩=>⟨⟨v,he⟩,A⟩
theorem HP (s:List UInt8) (w:World) (hs:s.length≤1048576):
 bf ao 71 (ba [str s]) w (fun v w'=>(∃ a,v= .tuple #[a,.int .i64 (if 65536 < s.length then 10 else 0)]∧(if 65536 < s.length then a= .slice none 0 0 else bq w' w.heap.size 9 1 (a) (dj s).length ((dj s).map str)))∧Wk w w'):=by
 refine vU [] func71 aa ntmps71 aa ?_
 refine dY<|eC<|rg aa<|p aE<|p aE<|nl<|dU<|dY<|dY<|eC<|rg aa<|p (aJ (str s) aa)<|p (dB u9 aa aa)<|p (gt aa aa)<|nl<|dU<|eC<|cd aa (fun aK=> ?_) fun aK=> ?_
 refine sq fun aP aC=>rg aa<|p aE<|p aE<|nl<|tn<|aC _ _<|rt<|prt<|EL aa aa aa ?_
 have I:65536 < s.length:=ab
 exact ⟨⟨.slice none 0 0,by show jY #[.slice none 0 0,.int .i64 10]=_; rw [if_pos I],by rw [if_pos I]⟩,Md.refl _ _⟩
 refine aR<|dU<|dY<|eC<|rg aa<|e<|gn Xl fun am aN aV aD aq=>nl<|dU<|dY<|dY<|eC<|rg aa<|p (aJ (str s) aa)<|e<|cl Dc (tD s _) aa fun v11 al aF=> ?_
 obtain ⟨ac,rfl,aT,an,au⟩:=aF
 have J:Wk w al:=Md.trans aD.md au
 have aH:=au.aB aq
 have aU:=(bY.1 an).1
 have a0:am < aN.heap.size:=(bY.1 aq).1
 have I:s.length≤65536:=ab
 refine nl<|dU ?_
 apply Hp (vT) (jm 1<|dj s) (fun W=>W.heap[ac]? =some (.cells [str s].toArray 9 (0,0))) (fun pre G=> ∃ v,G.heap[am]? =some (.cells [v].toArray 35 (0,0))∧bq G al.heap.size 9 1 v pre.length ((pre.map mP).map str)∧G.heap[ac]? =some (.cells [str s].toArray 9 (0,0))∧al.heap.size≤G.heap.size∧Wk w G) rfl Dm (fun _=>rfl) (vS s ac I) (⟨.slice none 0 0,aH,dS _ _ _ _,an,cz _,J⟩) (fun _ _ ⟨_,_,_,h,_⟩=>h) (fun pre A C F ⟨v,h1,h2,h3,h5,h4⟩ hm Y=>⟨v,xA h1 hm Y,HR h2 hm Y,xA h3 hm Y,ea h5 hm.size,HS h4 hm J.size Y⟩)
 intro l x G K M
 exact rg aa<|p (cj (str x.2) aa)<|nl<|tn<|M
 intro l pre x rest G aL ae
 obtain ⟨v,Z,E,ai,ak,ad⟩:=ae
 obtain ⟨aZ,a2,a3⟩:=AO aL
 have aX:=qK s
 have a1:=(bY.1 ai).1
 refine aB<|rg aa<|p (ld qt aa<|(a7 Z).trans aa)<|p mv<|e<|lK kW aa aa fun aQ aM ag q av=> ?_
 have ay:Wk w aM:=Md.trans ad q.md
 have ag:=q.md.aB Z
 refine e<|ap kW (a8 E q.md) aa (ea ak q.md.size) aa (aG.fV av) (aa) (aa) ab ab fun v17 a5 aj O a4 aW=> ?_
 have az:=Wk.own ay (a8 E q.md) O J.size
 have aI:=O.aB (q.md.aB ai) fun h=>by have :=cV (a8 E q.md) h; omega
 have ah:=O.aB ag fun h=>dx (a8 E q.md) ag aw h
 refine e<|dy OH aa aa (eM aj) ah (by simp) fun aO V ax=> ?_
 have aA:Wk w aO:=Md.trans' az V fun k hk h=>by omega
 exact nl<|bn<|⟨(eW.wk q.md).trans ((eW.md O<|lY<|a8 E q.md).trans<|eW.md V fun k hk=>⟨_,_,_,hk ▸ ah⟩),v17,ax,cx (by rw [iw,iw,bK]; exact aj) V (fun k hk h=>dx aj ah aw<|h ▸ hk),V.aB aI (fun h=>by omega),ea ak (ea q.md.size<|ea O.size V.size),aA⟩
 intro D G aS ae M
 obtain ⟨v,Z,E,ai,ak,ad⟩:=ae
 have aY:=(bY.1 M).1
 refine dU<|dY<|eC<|rg aa<|p (ld qt aa<|(a7 Z).trans aa)<|p aE<|p aE<|nl<|dU<|qQ<|EM aa aa aa M ?_
 have I:¬65536 < s.length:=ab
 rw [AP,GZ] at E
 exact ⟨⟨v,by show jY #[v,.int .i64 0]=_; rw [if_neg I],by rw [if_neg I]; exact e5 (cx E (kD _ _ _) fun k hk h=>by obtain ⟨c,e,z,h1⟩:=lY E k hk; rw [h,M] at h1; cases h1) J.size⟩,Md.trans' ad (kD _ _ _) fun k hk h=>by have :=J.size; omega⟩
end Go.Hb.vg
section
namespace Go.Hb
open Go.Hb.vg
set_option maxHeartbeats 1000000 in
theorem Hu (s:List UInt8) (w:World) (hs:s.length≤1048576):
 bf ao 70 (ba [str s]) w (fun v w'=>(∃ a,v= .tuple #[a,.int .i64 (if 65536 < s.length then 10 else 0)]∧(if 65536 < s.length then a= .slice none 0 0 else ∃ vs,bq w' w.heap.size 181 2 a (eU s).length (l1 vs)∧hU w' w.heap.size 9 vs (eU s)))∧Wk w w'):=by
 refine vU [] func70 aa ntmps70 aa ?_
 refine dY<|eC<|rg aa<|p aE<|p aE<|nl<|dU<|dY<|dY<|eC<|rg aa<|p (aJ (str s) aa)<|p (dB u9 aa aa)<|p (gt aa aa)<|nl<|dU<|eC<|cd aa (fun bA=> ?_) fun bA=> ?_
 refine sq fun aP ai=>rg aa<|p aE<|p aE<|nl<|tn<|ai _ _<|rt<|prt<|EL aa aa aa ?_
 have V:65536 < s.length:=ab
 exact ⟨⟨.slice none 0 0,by show jY #[.slice none 0 0,.int .i64 10]=_; rw [if_pos V],by rw [if_pos V]⟩,Md.refl _ _⟩
 refine aR<|dU<|dY<|eC<|rg aa<|e<|gn Xh fun an b1 cc bu aT=>nl<|dU<|dY<|dY<|eC<|rg aa<|p (aJ (str s) aa)<|e<|cl Dc (tD s _) aa fun cq ax bv=> ?_
 obtain ⟨aA,rfl,ca,aS,aV⟩:=bv
 have ac:Wk w ax:=Md.trans bu.md aV
 have ck:an < b1.heap.size:=(bY.1 aT).1
 have bx:=aV.aB aT
 have cb:=(bY.1 aS).1
 have V:s.length≤65536:=ab
 refine nl<|dU ?_
 apply Hp (vT) (jm 1<|dj s) (fun W=>W.heap[aA]? =some (.cells [str s].toArray 9 (0,0))) (fun pre J=> ∃ v vs,J.heap[an]? =some (.cells [v].toArray 156 (0,0))∧bq J ax.heap.size 181 2 v (ll 1<|pre.map mP).length (l1 vs)∧hU J ax.heap.size 9 vs (ll 1<|pre.map mP)∧J.heap[aA]? =some (.cells [str s].toArray 9 (0,0))∧ax.heap.size≤J.heap.size∧Wk w J) rfl Dm (fun _=>rfl) (vS s aA V) (⟨.slice none 0 0,[],bx,dS _ _ _ _,hU.nil _ _ _,aS,cz _,ac⟩) (fun _ _ ⟨_,_,_,_,_,h,_⟩=>h) (fun pre A C F ⟨v,vs,h1,h2,bb,h3,h5,h4⟩ hm ah=>⟨v,vs,xA h1 hm ah,HR h2 hm ah,bb.md hm (fun k hk cur z=>(ah k hk).2 cur _ z),xA h3 hm ah,ea h5 hm.size,HS h4 hm ac.size ah⟩)
 intro l x J K ae
 exact sq fun aP ai=>rg aa<|p (cj (.int .i64 x.1) aa)<|nl<|tn<|ai _ _<|rg aa<|p (cj (str x.2) aa)<|nl<|tn<|ae
 intro l pre x rest J bW aF
 obtain ⟨v,vs,aM,al,au,aL,av,aD⟩:=aF
 obtain ⟨ci,bX,bZ⟩:=AO bW
 have cg:=qK s
 have cm:=(bY.1 aL).1
 have cn:x.2.length≤s.length:=Gr<|by rw [bZ]; simp
 have cf:=zU x.2 []
 have bI:=Hr (pre.map mP) 1
 rw [e8] at bI
 refine aB<|sq fun aP ai=>rg aa<|p mv<|e<|cl LA (PZ x.2 _ ab) aa fun cs a2 bw=> ?_
 obtain ⟨ak,bi⟩:=bw
 obtain ⟨E,aq,rfl⟩:=cT ak
 have aW:=(a6 ak).2
 have bB:=(a6 ak).1
 refine p aE<|nl<|tn<|ai _ _ ?_
 refine e6 (fun az ay=> ∃ (n cp:Nat),(n≤(dJ [] x.2).length)∧(n≤cp)∧(oL (dJ [] x.2)=(dJ [] x.2).take n)∧(Wk a2 ay)∧(az 4= .pointer (some ⟨an,0,none⟩))∧(az 5= .int .i64 x.1)∧(az 7= .slice E n cp)) ?_ ?_
 refine sq fun a5 aH=>rg aa<|p mv<|p (bP iQ aa aa)<|p mv<|nl<|tn<|aH _ _<|aB<|lp (fun aQ Z a4=> ∃ (i:Nat),(i≤(dJ [] x.2).length)∧(∀ q,q < i→xg ((dJ [] x.2).getD q [])=false)∧(Wk a2 a4)∧(Z 4= .pointer (some ⟨an,0,none⟩))∧(Z 5= .int .i64 x.1)∧(Z 7= .slice E (dJ [] x.2).length aq)∧(Z 19= .slice E (dJ [] x.2).length aq)∧(Z 20= .int .i64 (dJ [] x.2).length)∧(Z 21= .int .i64 i)∧((dJ [] x.2).length - i=aQ)) _ ⟨0,ab,(fun q bH=>by omega),(Md.refl _ _),aa,aa,aa,aa,aa,aa,aa⟩ ?_
 rintro aQ Z a4 ⟨i,hi,aO,ag,bT,bU,bV,bQ,bR,bS,rfl⟩
 refine fx 4 bT<|fx 5 bU<|fx 7 bV<|fx 19 bQ<|fx 20 bR<|fx 21 bS<|sq fun b3 bm=>rg aa<|p (lt aa aa)<|nl<|tn<|bm _ _<|sq fun b4 bo=>cd aa (fun bC=> ?_) fun bC=> ?_
 refine aR<|tn<|bo _ _<|sq fun b5 bp=>aB<|sq fun b6 br=>rg aa<|p (aJ (.int .i64 i) aa)<|p (bd ec aa aa ab<|aG.ok (aW.wk ag)<|db ab)<|p (ld cH aa<|dz.get (i:=i) (aW.wk ag) ab)<|p (cj (.int .i64 i) aa)<|p aE<|nl<|tn<|br _ _<|sq fun b7 bs=>rg aa<|p mv<|p (ng 0 u9 aa aa<|mM.2 (Fe _ _ _<|QV ab).1)<|p (cw aa aa)<|nl<|tn<|bs _ _<|cd aa (fun bE=> ?_) fun bE=> ?_
 exact sq fun b8 bt=>rg aa<|p (aJ (.slice E (dJ [] x.2).length aq) aa)<|p (aJ (.int .i64 i) aa)<|p (aJ (.int .i64 i) aa)<|p (Nq ec aa aa aa ab)<|p aE<|nl<|tn<|bt _ _<|ext<|mj aw<|te _<|te _<|be<|tn<|⟨i,i,hi,(cz _),(Ga hi aO<|.inr<|decide_eq_true ab),ag,aa,aa,aa⟩
 exact aR<|bn<|tn<|bp _ _<|rg aa<|p (ad aa aa<|cC ab)<|p mv<|nl<|tn<|⟨_,ab,i+1,ab,(fun q bH=>by rcases jh q i with h | h <;> first | exact aO q h | (rw [show q=i by omega]; exact decide_eq_false ab)),ag,aa,aa,aa,aa,aa,aa,aa⟩
 exact ext<|te _<|te _<|be<|tn<|⟨(dJ [] x.2).length,aq,(cz _),bB,(by have h:=Ga hi aO (.inl ab); rwa [show i=(dJ [] x.2).length from by omega] at h),ag,aa,aa,aa⟩
 rintro az ay ⟨n,cp,hn,bG,aY,aC,bM,bN,bO⟩
 refine fx 4 bM<|fx 5 bN<|fx 7 bO ?_
 have G:Wk J ay:=Md.trans bi aC
 have aK:=G.aB aM
 have a0:=a8 al G
 have a1:=au.wk G
 have aX:=G.aB aL
 have aU:Wk w ay:=Md.trans aD G
 refine sq fun a5 aH=>rg aa<|p (aJ (.slice E n cp) aa)<|p (bP iQ aa aa)<|p (gt aa aa)<|nl<|tn<|aH _ _<|cd aa (fun bF=> ?_) fun bF=> ?_
 have am:pQ x.2 (1 +pre.length)= [(x.1,(dJ [] x.2).take n)]:=by unfold pQ; rw [aY,if_neg (fun h=>by have h:=congrArg mL h; rw [ee,fZ] at h; omega),← bX]
 refine rg aa<|p (ld rD aa<|(a7 aK).trans aa)<|p (aJ (.int .i64 x.1) aa)<|p (aJ (.slice E n cp) aa)<|p (di (ps:= [(0,.int .i64 x.1),(1,.slice E n cp)]) (L:= [.int .i64 x.1,.slice E n cp]) VD aa<|aa)<|e<|nM HN aa aa aa fun a9 a3 aI I bc=> ?_
 have bg:bD a3.heap a9 [.int .i64 x.1,.slice E n cp]:=bc
 have bj:Wk w a3:=Md.trans aU I.md
 have Y:=a8 a0 I.md
 have aI:=I.md.aB aK
 refine e<|ap HN (Y) aa (by have :=I.size; have :=G.size; omega) aa (aG.fV bg) (aa) (aa) ab ab fun b0 ct aN M co ce=> ?_
 have bk:=Wk.own bj Y M ac.size
 have bz:=M.aB (I.md.aB aX) fun h=>by have :=cV Y h; omega
 have aj:=M.aB aI fun h=>dx Y aI aw h
 have bJ:=(a1.wk I.md).md M<|jD Y aw
 have aZ:=cx (a8 (a8 ak aC) I.md) M fun k hk=>n0 (a8 (a8 ak aC) I.md) Y aw hk
 refine e<|dy Ej aa aa (eM aN) aj (by simp) fun b2 O bh=> ?_
 have bl:Wk w b2:=Md.trans' bk O fun k hk h=>by omega
 have bL:=(bJ.md O<|ic aj aw).snoc (n:=x.1) (r:=(dJ [] x.2).take n) (v:= .slice E n cp)<|by rw [ee,Nat.min_eq_left hn,List.map_take]; exact (Tg.kF<|e5 (cx aZ O fun k hk h=>dx aZ aj aw<|h ▸ hk) av).clip bG
 exact nl<|bn<|⟨(eW.wk G).trans ((eW.wk I.md).trans<|(eW.md M<|lY Y).trans<|eW.md O fun k hk=>⟨_,_,_,hk ▸ aj⟩),b0,vs++ [(x.1,.slice E n cp)],bh,(by rw [iw,show [x].map mP= [x.2] from aa,xh,e8,am]; rw [bK,UZ]; exact cx aN O fun k hk h=>dx aN aj aw<|h ▸ hk),(by rw [iw,show [x].map mP= [x.2] from aa,xh,e8,am]; exact bL),O.aB bz (fun h=>by omega),ea av (ea G.size<|ea I.md.size<|ea M.size O.size),bl⟩
 have am:pQ x.2 (1 +pre.length)= []:=by unfold pQ; rw [aY,if_pos (by rw [show n=0 by omega]; rfl)]
 exact aR<|bn<|⟨eW.wk G,v,vs,aK,(by rw [iw,show [x].map mP= [x.2] from aa,xh,e8,am]; rw [ep]; exact a0),(by rw [iw,show [x].map mP= [x.2] from aa,xh,e8,am]; rw [ep]; exact a1),aX,ea av G.size,aU⟩
 intro D J b9 aF ae
 obtain ⟨v,vs,aM,al,au,aL,av,aD⟩:=aF
 have ch:=(bY.1 ae).1
 refine dU<|dY<|eC<|rg aa<|p (ld rD aa<|(a7 aM).trans aa)<|p aE<|p aE<|nl<|dU<|qQ<|EM aa aa aa ae ?_
 have V:¬65536 < s.length:=ab
 rw [AP] at al au
 exact ⟨⟨v,by show jY #[v,.int .i64 0]=_; rw [if_neg V],by rw [if_neg V]; exact ⟨vs,e5 (cx al (kD _ _ _) fun k hk h=>by obtain ⟨c,e,z,h1⟩:=lY al k hk; rw [h,ae] at h1; cases h1) ac.size,(au.md (kD _ _ _) fun k hk cur z=>by rw [hk,ae]; simp).mono ac.size⟩⟩,Md.trans' aD (kD _ _ _) fun k hk h=>by have :=ac.size; omega⟩
end Go.Hb
end
section
namespace Go.Hb.gR
open Go.Hb.qm Go.Hb.vg
theorem tY {eof ln:Nat} {F F':aC} {hs:List Tx} {rows rows':List Rw} {row:List Tx} (a:ca eof F hs rows ln row= .ok (F',rows')):rows'.length≤rows.length:=by
 unfold ca at a
 repeat' split at a
 · unfold jV at a; split at a; cases a; cases a; exact cz _
 · unfold kB at a; repeat' split at a
   all_goals first | (cases a; done) | (cases a; exact cz _)
 · unfold mD at a; split at a; cases a; cases a; exact cz _
 · unfold mE at a; split at a; cases a; cases a; exact cz _
 · unfold kE at a; repeat' split at a
   all_goals first | (cases a; done) | (cases a; exact cz _)
 · unfold kH at a; repeat' split at a
   all_goals first | (cases a; done) | (cases a; exact (tX _ _ _<|by assumption).1)
 · unfold j6 at a; repeat' split at a
   all_goals first | (cases a; done) | (cases a; exact (tX _ _ _<|by assumption).1)
 · unfold gV at a; repeat' split at a
   all_goals first | (cases a; done) | (cases a; exact (tX _ _ _<|by assumption).1)
theorem Ho {eof k:Nat} {F:aC} {hs:List Tx} :gN eof k F hs []= .ok F:=by cases k <;> simp [gN]
section
variable {eof k n:Nat} {F:aC} {hs:List Tx} {r:List Tx} {rest:List Rw} {T:Except (Nat×Nat) aC} (h:gN eof k F hs ((n,r)::rest)=T) (hk:rest.length+1≤k)
include h hk
theorem Up (a:width (r.getD 0 [])=0):T= .error (n,110):=by
 obtain ⟨m,rfl⟩:∃ m,k=m+1:=⟨k - 1,ab⟩
 rw [← h,gN,if_pos a]
theorem Uq (a:width (r.getD 0 [])≠0) (h1:r.length≠width (r.getD 0 [])):T= .error (n,111):=by
 obtain ⟨m,rfl⟩:∃ m,k=m+1:=⟨k - 1,ab⟩
 rw [← h,gN,if_neg a,if_pos h1]
theorem Hl (a:width (r.getD 0 [])≠0) (h1:r.length=width (r.getD 0 [])) (h2:width (r.getD 0 [])≠4) (h3:r.getD 0 []∈hs):T= .error (n,112):=by
 obtain ⟨m,rfl⟩:∃ m,k=m+1:=⟨k - 1,ab⟩
 have hw:width (r.getD 0 [])=2:=by
  unfold width at a h2 ⊢
  split
  · rfl
  · rename_i hn
    rw [if_neg hn] at a h2
    split at h2
    · exact absurd aa h2
    · rename_i c; rw [if_neg c] at a; exact absurd rfl a
 rw [← h,gN,if_neg a,if_neg (fun h4=>h4 h1),if_pos ⟨hw,h3⟩]
theorem Hm {e:Nat×Nat} (a:width (r.getD 0 [])≠0) (h1:r.length=width (r.getD 0 [])) (h2:width (r.getD 0 [])=2→r.getD 0 []∉hs) (h3:ca eof F hs rest n r= .error e):T= .error e:=by
 obtain ⟨m,rfl⟩:∃ m,k=m+1:=⟨k - 1,ab⟩
 rw [← h,gN,if_neg a,if_neg (fun h4=>h4 h1),if_neg (fun h4=>h2 h4.1 h4.2),h3]
theorem Hn {F':aC} {rows':List Rw} (a:width (r.getD 0 [])≠0) (h1:r.length=width (r.getD 0 [])) (h2:width (r.getD 0 [])=2→r.getD 0 []∉hs) (h3:ca eof F hs rest n r= .ok (F',rows')):gN eof (k - 1) F' (hs++ [r.getD 0 []]) rows'=T∧rows'.length≤k - 1:=by
 obtain ⟨m,rfl⟩:∃ m,k=m+1:=⟨k - 1,ab⟩
 refine ⟨?_,by have :=tY h3; omega⟩
 rw [← h,gN,if_neg a,if_neg (fun h4=>h4 h1),if_neg (fun h4=>h2 h4.1 h4.2),h3]; rfl
end
theorem Kx {s:Tx} (h:65536 < s.length):fR s= .error (0,10):=by unfold fR; rw [if_pos h]
theorem rC {s:Tx} {e:Nat×Nat} (h:¬65536 < s.length) (h1:gN ((dj s).length+1) (eU s).length iH [] (eU s)= .error e):fR s= .error e:=by unfold fR; rw [if_neg h,h1]
theorem Kw {s:Tx} {F:aC} {q:cK} (h:¬65536 < s.length) (h1:gN ((dj s).length+1) (eU s).length iH [] (eU s)= .ok F) (h2:F.rules.find? (nL F)=some q):fR s= .error (q.line,118):=by unfold fR; rw [if_neg h,h1]; simp only; rw [h2]
theorem Ky {s:Tx} {F:aC} (h:¬65536 < s.length) (h1:gN ((dj s).length+1) (eU s).length iH [] (eU s)= .ok F) (h2:F.rules.find? (nL F)=none):fR s= .ok F:=by unfold fR; rw [if_neg h,h1]; simp only; rw [h2]
def pO (s:Tx):Value:=match gC s with | some (.agg cs)=>cs.getD 1 .nilFunc | _=> .nilFunc
theorem Ri (s:Tx):(gC s).getD (.agg #[.int .i64 0,.nilFunc])= .agg [.int .i64 (width s:Nat),pO s].toArray∧(gC s).isSome=decide (width s≠0):=by
 rcases Ah s with h | ⟨wd,f,h,hw,a⟩
 · have a:=FU h
   unfold pO
   rw [h,a]; exact ⟨rfl,rfl⟩
 · unfold pO
   rw [h,hw,decide_eq_true a]; exact ⟨rfl,rfl⟩
theorem Rq (s:Tx):[fG .i64 (width s:Nat),pO s].all eO=true :=by
 rcases Ah s with h | ⟨wd,f,h,hw,a⟩ <;> unfold pO <;> rw [h] <;> rfl
theorem FT {s:Tx} (h:width s≠0):∃ v,gC s=some v∧∀ (wd:Nat) (f:Nat),v= .agg [.int .i64 (wd:Nat),.func (.func f) #[] #[]].toArray→pO s= .func (.func f) #[] #[]:=by
 rcases Ah s with h1 | ⟨wd,f,h1,hw,c⟩
 · exact absurd (FU h1) h
 · refine ⟨_,h1,fun q a he=> ?_⟩
   unfold pO
   rw [h1,he]; rfl
theorem HD {f:Value→Option Value} {seen:List Tx} (k:Tx) (a:∀ s:Tx,(f<|str s).getD (.int .i64 0)= .int .i64 (seen.count s:Nat)) (s:Tx):(bA f (str k) (.int .i64 (seen.count k+1:Nat))<|str s).getD (.int .i64 0)= .int .i64 ((seen++ [k]).count s:Nat):=by
 rw [List.count_append]
 by_cases h:s=k
 · subst h; rw [mA]; simp
 · rw [kU (fun h2=>h<|str_inj.1 h2),a s,List.count_singleton,show (k==s)=false from by simpa using fun h2=>h h2.symm]; rfl
theorem cD.HC {w w':World} {B:Nat} {H:cy} {F:aC} {R:gl} {rows:List Rw} {ln:Nat} {seen q:List Tx} {f:Value→Option Value} (h:cD w B H F R rows ln seen) (hm:Md (fun k=>k=H.ms) w w') (A:bS w'.heap H.ms ik f) (hd:∀ s:Tx,(f<|str s).getD (.int .i64 0)= .int .i64 (q.count s:Nat)):cD w' B H F R rows ln q:=by
 obtain ⟨g,E,G⟩:=h.tm
 obtain ⟨f0,C,_⟩:=h.sm
 have a:TF w [1] (fun k=>k=H.ms):=TF.eq (dK C) aw
 exact ⟨hm.gT a h.cells aw,h.rws.md hm (fun k hk cur z c=>a.no (dD c) aw hk),h.rt.md hm (fun k hk cur z c=>a.no (dD c) aw hk),⟨f,A,hd⟩,⟨g,E.md hm (fun h2=>h.ne.1 h2.symm),G⟩,cX h.on hm a aw,h.lo,h.ne⟩
theorem c8.ms {w w':World} {B:Nat} {H:cy} {F a:aC} {V:eh} {R:gl} {rows:List Rw} {ln:Nat} {seen:List Tx} (h:c8 w B H.fb H.mc a V) (c:cD w B H F R rows ln seen) (hm:Md (fun k=>k=H.ms) w w'):c8 w' B H.fb H.mc a V:=by
 obtain ⟨g,q,_⟩:=c.sm
 exact h.md (L:= [1]) hm (TF.eq (dK q) aw) aw fun h=>c.ne.2.1 h.symm
theorem eF.ms {w w':World} {B:Nat} {H:cy} {F:aC} {R:gl} {rows:List Rw} {ln:Nat} {seen:List Tx} (a:cD w B H F R rows ln seen) (hm:Md (fun k=>k=H.ms) w w'):eF B H w w':=hm.mono fun k _ hk=>⟨hk ▸ a.lo.2.1,.inl hk⟩
structure ox (w0 w:World) (H:cy) (b2 b3 bt:Nat):Prop where
 c2:w.heap[b2]? =some (.cells [.pointer none].toArray 88 (0,0))
 c3:w.heap[b3]? =some (.cells [.int .i64 0,.int .i64 0,.int .i64 0].toArray 45 (0,0))
 lo:w0.heap.size≤b2∧w0.heap.size≤b3∧b2≠b3
 tb:∃ f,bS w.heap bt ik f∧∀ s,f (str s)=gC s
 ne:bt≠H.ms∧bt≠H.mt∧bt≠H.mc
 wk:Wk w0 w
theorem ox.md {w0 w w':World} {H:cy} {a c q:Nat} (h:ox w0 w H a c q) (hm:Wk w w'):ox w0 w' H a c q:=by
 obtain ⟨f,A,C⟩:=h.tb
 exact ⟨Wk.aB hm h.c2,Wk.aB hm h.c3,h.lo,⟨f,A.wk hm,C⟩,h.ne,h.wk.trans hm⟩
theorem ox.mw {w0 w w':World} {H:cy} {a c q:Nat} {F:aC} {R:gl} {V:eh} {rows:List Rw} {ln:Nat} {seen:List Tx} (h:ox w0 w H a c q) (E:c8 w w0.heap.size H.fb H.mc F V) (A:cD w w0.heap.size H F R rows ln seen) (hm:eF w0.heap.size H w w'):ox w0 w' H a c q:=by
 obtain ⟨f,C,I⟩:=h.tb
 obtain ⟨f1,G,_⟩:=A.sm
 obtain ⟨f2,J,_⟩:=A.tm
 obtain ⟨f3,M,_⟩:=E.cm
 have hn:=fun e (O:([169,166,191,53,194,136,5]:List Nat).contains (e+2)=false)=>Wr.ne (B:=w0.heap.size) (dK G) (dK J) (dK M) O
 refine ⟨hm.aB h.c2 (fun hk=>hn 88 aw _ hk _ _ h.c2),hm.aB h.c3 (fun hk=>hn 45 aw _ hk _ _ h.c3),h.lo,⟨f,C.md hm ?_,I⟩,h.ne,hm.wk h.wk<|cz _⟩
 rintro ⟨_,h1 | h1 | h1 | h1⟩
 · exact h.ne.1 h1
 · exact h.ne.2.1 h1
 · exact h.ne.2.2 h1
 · rw [dK C] at h1; exact absurd h1 aw
def Kh (w':World) (B:Nat) (F:aC) (v:Value):Prop := ∃ fb mc V,v= .tuple #[.pointer (some ⟨fb,0,none⟩),.agg [.int .i64 0,.int .i64 0,.int .i64 0].toArray]∧c8 w' B fb mc F V∧(∃ seen,j0 F [] seen)∧Nx F
def Kg (e:Nat×Nat) (v:Value):Prop :=v= .tuple #[.pointer none,.agg [.int .i64 1,.int .i64 (e.1:Nat),.int .i64 (e.2:Nat)].toArray]
def oB (s:Tx) (w:World) (v:Value) (w':World):Prop :=(match fR s with | .ok F=>Kh w' w.heap.size F v | .error e=>Kg e v)∧Wk w w'
theorem oB.no {s:Tx} {w w':World} {l e:Nat} (h:fR s= .error (l,e)) (hm:Wk w w'):oB s w (.tuple #[.pointer none,.agg [.int .i64 1,.int .i64 (l:Nat),.int .i64 (e:Nat)].toArray]) w':=by
 unfold oB; rw [h]; exact ⟨rfl,hm⟩
theorem qP {n:Nat} {G:List Nat} {fn:Func} {σ:Nat→Value} {s:Tx} {w W:World} {H:cy} {c q A l e:Nat} (E:fn.results= #[.cell 2 88,.cell 3 45]) (C:3 < n) (I:σ 2= .pointer (some ⟨c,0,none⟩)) (J:σ 3= .pointer (some ⟨q,0,none⟩)) (a:ox w W H c q A) (M:fR s= .error (l,e)):qb ⟨n,[{target:= .fn (.func 72) #[.pointer (some ⟨c,0,none⟩),.pointer (some ⟨q,0,none⟩)],args:= #[]}],G,none⟩ (po ao fn<|oB s w) (.panic<|ij 45 l (e:Nat)) σ W:=
 Us E C I J ⟨_,a.c2⟩ ⟨_,rfl,a.c3⟩ a.lo.2.2 (fun w' hm=>oB.no M<|a.wk.trans' hm fun k hk h=>by rcases h with rfl | rfl; have :=a.lo.1; omega; have :=a.lo.2.1; omega)
theorem ON {x:Nat} (h:x≠0):eu iH x=false :=by
 unfold eu iH dM
 simp [h]
theorem Wk.dr {w:World} :Wk w w.drew:=(Md.refl _ _).drew
theorem Kv (s:Tx) (w:World) (hs:s.length≤1048576):
 bf ao 39 (ba [str s]) w (oB s w):=by
 refine PC [2,3] func39 aa ntmps39 aa ?_
 refine dY<|eC<|rg aa<|e<|gn Xm fun aN fj eH co cQ=>e<|gn oc fun aO ep eM bu cW=> ?_
 have e2:=co.size
 have e6:=bu.size
 have c9:Wk w ep:=co.md.trans bu.md
 have d4:=Wk.aB bu.md cQ
 refine nl<|dU<|dY<|eC<|rg aa<|p (aJ (str s) aa)<|e<|cl DQ (Hu s _ hs) aa fun ff fi dA=> ?_
 obtain ⟨⟨eD,rfl,ct⟩,hE15⟩:=dA
 have cb:=c9.trans hE15
 have cB:=Wk.aB hE15 d4
 have cC:=Wk.aB hE15 cW
 have e1:=hE15.size
 refine p mv<|p (xt aa aa)<|p (xt aa aa)<|p aE<|p aE<|nl<|dU<|dY<|dY<|eC<|rg aa<|p mv<|p (gE aa aa)<|nl<|dU<|eC<|cd aa (fun bC=> ?_) fun bC=> ?_
 have cs:65536 < s.length:=Classical.byContradiction fun h=>bC<|by rw [if_neg h]
 exact sq fun cI bp=>rg aa<|p mv<|p (di (ps:= [(0,.int .i64 1),(2,.int .i64 (if 65536 < s.length then 10 else 0))]) (L:= [.int .i64 1,.int .i64 0,.int .i64 (if 65536 < s.length then 10 else 0)]) sv aa<|aa)<|e<|dy zr aa aa (v:= .pointer none) aa cB aw fun ft ck cZ=>e<|fY iV aa aa aa aa (ck.aB cC fun h=>by omega) aw fun fu cn c0=>nl<|tn<|bp _ _<|rt<|prt<|PV (xi aa (mC<|Ba aa aa<|(a7<|cn.aB cZ fun h=>by omega).trans aa)<|mC<|dV aa aa aa fun j eS=>by rw [fQ,a7 c0,if_pos cs]; simp)<|oB.no (Kx cs)<|(cb.trans' ck fun k hk h=>by omega).trans' cn fun k hk h=>by omega
 have an:¬65536 < s.length:=fun h=>bC<|by rw [if_pos h]; decide
 rw [if_neg an] at ct
 obtain ⟨vs,cA,d5⟩:=ct
 obtain ⟨ar,cr,rfl⟩:=cT cA
 refine aR<|dU<|dY<|eC<|rg aa<|p (aJ (str s) aa)<|e<|cl DR (HP s _ hs) aa fun v24 cG dB=> ?_
 obtain ⟨⟨a24,rfl,cu⟩,hE24⟩:=dB
 rw [if_neg an] at cu
 obtain ⟨fb,rM,rfl⟩:=cT cu
 have c6:=cb.trans hE24
 have eT:=qK s
 have e3:=hE24.size
 refine p mv<|p (xt aa aa)<|p (xt aa aa)<|p aE<|p aE<|nl<|dU<|dY<|eC<|rg aa<|e<|qM fun M fl eI cp cU=> ?_
 have e4:=cp.size
 refine p (di (ps:= [(1,.map (some M))]) (L:= [.int .i64 0,.string ⟨⟨[]⟩⟩,.string ⟨⟨[]⟩⟩,.int .u16 0,.int .u16 0,.int .u16 0,.int .u16 0,.int .u16 0,.int .i64 0,.slice none 0 0,.slice none 0 0,.slice none 0 0,.slice none 0 0,.map (some M)]) VB aa<|aa)<|e<|pG aa fun I fo eJ bt cV=> ?_
 have e5:=bt.size
 refine p mv<|p mv<|p (bP iQ aa aa)<|p (bL (((dj s).length+1:Nat):Int) aa aa<|bm ab ab)<|e<|qM fun Y fq eN bg cX=> ?_
 have e7:=bg.size
 refine e<|qM fun Z fr eO aY cY=> ?_
 have e8:=aY.size
 refine p (di (ps:= [(0,.pointer (some ⟨I,0,none⟩)),(1,.slice ar (eU s).length cr),(3,.int .i64 ((dj s).length+1:Nat)),(4,.map (some Y)),(5,.map (some Z))]) (L:= [.pointer (some ⟨I,0,none⟩),.slice ar (eU s).length cr,.int .i64 0,.int .i64 ((dj s).length+1:Nat),.map (some Y),.map (some Z),.slice none 0 0]) VC aa<|aa)<|e<|pG aa fun A aK eQ aS bl=> ?_
 have e9:=aS.size
 have dR:=Wk.aB (bg.md.trans<|aY.md.trans aS.md) cV
 refine p aE<|nl<|dU<|dY<|eC ?_
 have ai:(fun w'=>Md (fun k=>k=I) aK w') aK.drew:=(Md.refl _ _).drew
 refine bT (fun w'=>Md (fun k=>k=I) aK w') aa wide ai<|hp 0 aa ag (fun _ _=>mv) ai<|hp 1 aa ag (fun _ _=>nc aa) ai<|hp 2 aa ag (fun _ _=>fa gu aa) ai<|hp 3 aa ag (fun w' J=>ld eX aa<|Md.aM J ((a7 bl).trans aa) fun h=>by omega) ai<|hp 4 aa ag (fun _ _=>mv) ai<|hp 5 aa ag (fun _ _=>nc aa) ai<|hp 6 aa ag (fun _ _=>fa gu aa) ai<|hp 7 aa ag (fun w' J=>ld eX aa<|Md.aM J ((a7 bl).trans aa) fun h=>by omega) ai<|hp 8 aa ag (fun _ _=>nc aa) ai<|hp 9 aa ag (fun _ _=>fa fU aa) ai<|hp 10 aa ag (fun _ _=>fa rY aa) ai<|he 11 aa ag<|dy jN aa aa (v:= .int .i64 (1:Nat)) aa dR (by show 0 +0 +0 < 14; decide) fun et ds c4=> ?_
 have aZ:(fun w'=>Md (fun k=>k=I) aK w') et:=ai.trans' ds fun _ _ h=>h
 refine ⟨aZ,?_⟩
 refine hp 12 aa ag (fun _ _=>nc aa) aZ<|hp 13 aa ag (fun _ _=>fa fU aa) aZ<|hp 14 aa ag (fun _ _=>fa zV aa) aZ<|he 15 aa ag<|dy jN aa aa (v:= .int .i64 (3:Nat)) aa c4 (by show _ < 14; decide) fun eu dt c5=> ?_
 have bB:(fun w'=>Md (fun k=>k=I) aK w') eu:=aZ.trans' dt fun _ _ h=>h
 refine ⟨bB,?_⟩
 refine hn ag<|dU<|dY<|O2 Sl #[.pointer (some ⟨aN,0,none⟩),.pointer (some ⟨aO,0,none⟩)] aa aw ?_
 refine dY<|eC<|rg aa<|e<|cl MM (Rm _) aa fun v53 am dF=> ?_
 obtain ⟨aD,rfl,eR,ef,cc⟩:=dF
 have da:Wk cG aK:=cp.md.trans<|bt.md.trans<|bg.md.trans<|aY.md.trans aS.md
 have aQ:Md (fun k=>k=I) aK am:=bB.trans' cc fun _ _ h=>h.elim
 have aX:Wk cG am:=Md.trans' da aQ fun k hk h=>by omega
 have eZ:=aQ.size
 have dc:=c6.trans aX
 have dO:am.heap[I]? =some (.cells (nR iH ⟨.slice none 0 0,.slice none 0 0,.slice none 0 0,.slice none 0 0,[],[]⟩ M).toArray 164 (0,0)):=Wk.aB cc c5
 have dQ:am.heap[A]? =some (.cells (uo (⟨A,I,Y,Z,M,(dj s).length+1⟩:cy) ⟨.slice ar (eU s).length cr,vs,.slice none 0 0⟩ 0).toArray 167 (0,0)):=aQ.aB bl fun h=>by omega
 have dZ:bS am.heap M (jQ .u16) (fun _=>none):=bS.md (bS.wk (bS.nil cU)<|bt.md.trans<|bg.md.trans<|aY.md.trans aS.md) aQ fun h=>by omega
 have d0:bS am.heap Y ik (fun _=>none):=bS.md (bS.wk (bS.nil cX)<|aY.md.trans aS.md) aQ fun h=>by omega
 have d1:bS am.heap Z (jQ .u16) (fun _=>none):=bS.md (bS.wk (bS.nil cY) aS.md) aQ fun h=>by omega
 have dd:c8 am w.heap.size I M iH ⟨.slice none 0 0,.slice none 0 0,.slice none 0 0,.slice none 0 0,[],[]⟩:=⟨dO,dS _ _ _ _,dS _ _ _ _,dE.nil _ _ _,dS _ _ _ _,dS _ _ _ _,dE.nil _ _ _,⟨_,dZ,fun _=>rfl⟩,⟨ab,ab⟩,rfl⟩
 have dv:cD am w.heap.size (⟨A,I,Y,Z,M,(dj s).length+1⟩:cy) iH ⟨.slice ar (eU s).length cr,vs,.slice none 0 0⟩ (eU s) 0 []:=⟨dQ,(((Tg.kF cA).mono ab).wk<|hE24.trans aX).Wc,(d5.mono ab).wk (hE24.trans aX),⟨_,d0,fun _=>rfl⟩,⟨_,d1,fun x b3=>by rw [ON b3]; rfl⟩,dS _ _ _ _,⟨by show w.heap.size≤A; omega,by show w.heap.size≤Y; omega,by show w.heap.size≤Z; omega⟩,⟨by show Y≠Z; omega,by show Y≠M; omega,by show Z≠M; omega⟩⟩
 have eY:=Hs s
 have dL:St am w.heap.size (⟨A,I,Y,Z,M,(dj s).length+1⟩:cy) iH (eU s) 0 []:=⟨_,_,dd,dv,⟨by show 0 +0 +0 +0 +(eU s).length≤70000; omega,by show 0 +(eU s).length≤70000; omega,fun q bV=>by have h:=Ht bV; exact ⟨h.2.2.1,ab,fun x b3=>by have :=(h.2.2.2.2 x b3).2; omega⟩,.inl rfl,fun l a5=>by cases a5⟩⟩
 have ee:jK iH []:=fun k hk _=>by have h:∀ k∈gi,iH.sp.getD (gi.idxOf k) 0=0:=aw
                                  exact h k hk
 have d2:Nx iH:=⟨fun l a5=>(by cases a5),fun l a5=>by cases a5⟩
 have e0:=bB.size
 have d3:ox w am (⟨A,I,Y,Z,M,(dj s).length+1⟩:cy) aN aO aD:=⟨Wk.aB (hE24.trans aX) cB,Wk.aB (hE24.trans aX) cC,⟨ab,ab,ab⟩,ef,⟨by show aD≠Y; omega,by show aD≠Z; omega,by show aD≠M; omega⟩,dc⟩
 refine p aE<|nl<|dU<|dY<|eC<|aB<|lp (fun b9 bb a8=> ∃ (k:Nat) (F:aC) (rows:List Rw) (ln:Nat) (seen:List Tx),(gN (⟨A,I,Y,Z,M,(dj s).length+1⟩:cy).eof k F seen rows=gN ((dj s).length+1) (eU s).length iH [] (eU s))∧(rows.length≤k)∧(St a8 w.heap.size (⟨A,I,Y,Z,M,(dj s).length+1⟩:cy) F rows ln seen)∧(jK F seen)∧(Nx F)∧(ox w a8 (⟨A,I,Y,Z,M,(dj s).length+1⟩:cy) aN aO aD)∧(bb 2= .pointer (some ⟨aN,0,none⟩))∧(bb 3= .pointer (some ⟨aO,0,none⟩))∧(bb 8= .pointer (some ⟨A,0,none⟩))∧(bb 9= .map (some aD))∧(rows.length=b9)) _ ⟨(eU s).length,iH,eU s,0,[],aa,(cz _),dL,ee,d2,d3,aa,aa,aa,aa,aa⟩ ?_
 rintro b9 bb a8 ⟨k,F,rows,ln,seen,aj,hk,J,bj,bi,bN,d7,d8,d9,ea,rfl⟩
 refine fx 2 d7<|fx 3 d8<|fx 8 d9<|fx 9 ea ?_
 obtain ⟨V,R,O,av,aP⟩:=J
 obtain ⟨vr,vs,vn⟩:=R
 obtain ⟨b7,b8,eg⟩:=av.rws.slice
 obtain rfl :vr= .slice b7 rows.length b8:=eg
 refine sq fun cI bp=>sq fun ev dg=>rg aa<|p (aJ (.pointer<|some ⟨A,0,none⟩) aa)<|p (nc aa)<|p (fa tR aa)<|p (ld rD aa<|(a7 av.cells).trans aa)<|p (bP xI aa aa)<|p (gt aa aa)<|nl<|tn<|dg _ _<|cd aa (fun bD=> ?_) fun bD=> ?_
 obtain ⟨⟨n,r⟩,rest,rfl⟩:∃ q rest,rows=q::rest:=by
  cases rows with
  | nil=>exact absurd bD<|by simp
  | cons q rest=>exact ⟨q,rest,rfl⟩
 have b0:=aP.row (n,r)<|List.mem_cons_self ..
 have dM:=aP.len
 have dN:=aP.sl
 simp only [bX] at dM dN hk
 refine aR<|tn<|bp _ _<|aB<|sq fun ew dh=>rg aa<|p (aJ (.pointer<|some ⟨A,0,none⟩) aa)<|e<|cl DS (H3 w.heap.size (⟨A,I,Y,Z,M,(dj s).length+1⟩:cy) F ⟨.slice b7 (rest.length+1) b8,vs,vn⟩ n r rest ln seen a8 av) aa fun fg er dH=> ?_
 obtain ⟨⟨R1,dw⟩,hT1,hM1⟩:=dH
 obtain ⟨b6,c1,rfl⟩:=hT1.slice
 have de:=O.rb av hM1
 have cx:=bN.mw O av<|eF.rb av hM1
 have eW:0 < r.length:=mM.2 b0.1
 have ca:=j0.rU aP
 have cE:=Ri<|r.getD 0 []
 obtain ⟨eE,dX,cv⟩:=cx.tb
 refine p aE<|nl<|tn<|dh _ _<|sq fun ex dk=>rg aa<|p (aJ (.map<|some aD) aa)<|p mv<|p (bd ec aa aa ab<|aG.ok (hT1.dG.2)<|db ab)<|p (ld cH aa<|dz.get (i:=0) hT1.dG.2 ab)<|p (Gu lx Xq gL (dX) aa aa (⟨_,aa⟩) ((congrArg (fun o=>Option.getD o _)<|cv<|r.getD 0 []).trans cE.1)<|(congrArg Option.isSome<|cv<|r.getD 0 []).trans cE.2)<|p mv<|p (xt aa aa)<|p (xt aa aa)<|e<|gn Xi fun cM fh eG du cO=>e<|fY OD aa aa aa (Rq _) cO aw fun b5 dp cP=> ?_
 have bc:Wk er b5:=du.md.trans' dp fun k hk h=>by omega
 have bh:b5.heap[cM]? =some (.cells [.int .i64 (width (r.getD 0 []):Nat),pO (r.getD 0 [])].toArray 174 (0,0)):=cP
 have az:=de.wk bc
 have ac:=dw.wk bc
 have aT:=hT1.wk bc
 have aA:=cx.md bc
 refine p aE<|nl<|tn<|dk _ _<|sq fun ey dl=>rg aa<|p (aJ (.pointer<|some ⟨A,0,none⟩) aa)<|p mv ?_
 refine eP aa (c7 gy (gD A n _ 110 b5 ac.ei aw) aa fun v72 es dI=> ?_) (fun c w' ae aV O=>by
  obtain ⟨rfl,ax,rfl⟩:=ae
  exact qP aa aw ((O 2<|.head _).trans aa) ((O 3<|.tail _<|.head _).trans aa) aA (rC an<|Up aj hk<|mI.1<|of_decide_eq_false ax))
 obtain ⟨rfl,ak,rfl⟩:=dI
 have ak:width (r.getD 0 [])≠0:=of_decide_eq_true ak
 refine nl<|tn<|dl _ _<|sq fun ez dn=>rg aa<|p (aJ (.pointer<|some ⟨A,0,none⟩) aa)<|p mv<|p (bP iQ aa aa)<|p (fa Fl aa)<|p (ld bO aa<|(a7 bh).trans aa)<|p (cw aa aa) ?_
 refine eP aa (c7 gy (gD A n _ 111 es ac.ei aw) aa fun v79 ay dJ=> ?_) (fun c w' ae aV O=>by
  obtain ⟨rfl,ax,rfl⟩:=ae
  exact qP aa aw ((O 2<|.head _).trans aa) ((O 3<|.tail _<|.head _).trans aa) aA (rC an<|Uq aj hk ak fun h=>of_decide_eq_false ax<|by rw [h]))
 obtain ⟨rfl,ap,rfl⟩:=dJ
 have ap:r.length=width (r.getD 0 []):=by have :=of_decide_eq_true ap; omega
 refine nl<|tn<|dn _ _<|sq fun eA cg=> ?_
 obtain ⟨fd,eb,ed⟩:=ac.sm
 have C:(fun w'=>Wk ay w') ay.drew:=(Md.refl _ _).drew
 refine bT (fun w'=>Wk ay w') aa wide C<|hp 0 aa ag (fun _ _=>aJ (.pointer<|some ⟨A,0,none⟩) aa) C<|hp 1 aa ag (fun _ _=>fa Fl aa) C<|hp 2 aa ag (fun w' J=>ld bO aa<|Wk.aM J<|(a7 bh).trans aa) C<|hp 3 aa ag (fun _ _=>cw aa aa) C<|hp 4 aa ag (fun _ _=>mv) C<|kz (t:=84) aa (fun a4=> ?_) fun a4=> ?_
 refine nU 5 aa ag aa aa aa aa C<|nU 6 aa ag aa aa aa aa C<|nU 7 aa ag aa aa aa aa C<|nU 8 aa ag aa aa aa aa C<|nU 9 aa ag aa aa aa aa C<|nU 10 aa ag aa aa aa aa C<|nU 11 aa ag aa aa aa aa C<|nU 12 aa ag aa aa aa aa C<|nU 13 aa ag aa aa aa aa C<|hp 14 aa ag (fun _ _=>bR aa) C ?_
 refine r8 15 aa ag aa (c7 gy (gD A n _ 112 ay.drew (Wk.aM C ac.ei) aw) aa fun en aL bz=> ?_) (fun c w' ae aV O=>by
  obtain ⟨rfl,ax,rfl⟩:=ae
  first
   | exact absurd ax aw
   | exact qP rfl aw ((O 2<|.head _).trans rfl) ((O 3<|.tail _<|.head _).trans rfl) (aA.md Wk.dr) (rC an<|Hl aj hk ak ap (fun h=>a4<|by rw [h]; rfl)<|mI.1 fun h=>of_decide_eq_false ax<|by rw [qg.2 h]; rfl))
 obtain ⟨rfl,b4,a6⟩:=bz
 have aH:width (r.getD 0 [])=2→r.getD 0 []∉seen:=by
  first
   | exact fun h=>absurd a4 ab
   | exact fun _=>qg.1<|by have :=of_decide_eq_true b4; omega
 have E:Wk ay aL:=by rw [a6]; exact Wk.dr
 obtain ⟨eh,bJ,bG⟩:=FT ak
 obtain ⟨cN,b2,bE,bF⟩:=FY w.heap.size (⟨A,I,Y,Z,M,(dj s).length+1⟩:cy) F rest n seen r w.heap.size b6 c1 aL ⟨_,_,az.wk E,ac.wk E,ca⟩ (aT.wk E) b0.2.2 ap bj aH ab bJ
 have bH:=bG _ _ b2
 have bA:(fun w'=>Wk ay w') aL:=by rw [a6]; exact C
 refine ⟨bA,?_⟩
 refine hn ag<|tn<|cg _ _<|sq fun cJ bq=>rg aa<|p (fa Fo aa)<|p (ld CM aa<|(a7<|Wk.aB E bh).trans<|congrArg some bH)<|p (aJ (.pointer<|some ⟨A,0,none⟩) aa)<|p mv ?_
 refine eP aa (IB bE aa bF aa fun em aI bw=> ?_) (fun c w' ae aV O=>by
  obtain ⟨l,e,ad,rfl,au⟩:=ae
  exact qP aa aw ((O 2<|.head _).trans aa) ((O 3<|.tail _<|.head _).trans aa) ((aA.md E).mw (az.wk E) (ac.wk E) au) (rC an<|Hm aj hk ak ap aH ad))
 obtain ⟨rfl,F',rows',ln',ad,⟨cK,bk,aW,ah,aq⟩,au⟩:=bw
 have bU:=(aA.md E).mw (az.wk E) (ac.wk E) au
 obtain ⟨ej,bW,_⟩:=ac.sm
 obtain ⟨ek,bY,_⟩:=ac.tm
 obtain ⟨el,bZ,_⟩:=az.cm
 have a0:=(aT.wk E).md au<|Wr.ne (dK<|bW.wk E) (dK<|bY.wk E) (dK<|bZ.wk E) aw
 obtain ⟨fs,a2,a3⟩:=ah.sm
 have dP:=sU (a:=r.getD 0 []) (l:=seen)
 have a1:=Hn aj hk ak ap aH ad
 refine nl<|tn<|bq _ _ ?_
 have G:(fun w'=>Wk aI w') aI.drew:=(Md.refl _ _).drew
 refine eL (fun w'=>Wk aI w') 9 aa wide G<|lq 0 aa ag (fun _ _=>aJ (.pointer<|some ⟨A,0,none⟩) aa) G<|lq 1 aa ag (fun _ _=>nc aa) G<|lq 2 aa ag (fun _ _=>fa r4 aa) G<|lq 3 aa ag (fun w' J=>ld rE aa<|Wk.aM J<|(a7 ah.cells).trans aa) G<|lq 4 aa ag (fun _ _=>mv) G<|lq 5 aa ag (fun _ _=>bd ec aa aa ab<|aG.ok (aG.wk a0.dG.2 G)<|db ab) G<|lq 6 aa ag (fun w' J=>ld cH aa<|Wk.aM J<|dz.get (i:=0) a0.dG.2 ab) G<|lq 7 aa ag (fun w' J=>lh pY mH gL (bS.md (a2) J id) aa aa (⟨_,aa⟩)<|a3<|r.getD 0 []) G<|lq 8 aa ag (fun _ _=>bL ((seen.count (r.getD 0 [])+1:Nat):Int) aa aa<|bm ab ab) G<|dq 9 aa ag ag<|qV pY gL (a2.wk G) aa aa aa (⟨_,aa⟩) fun a9 br bv=> ?_
 have aF:=jb br
 have bx:cD a9 w.heap.size (⟨A,I,Y,Z,M,(dj s).length+1⟩:cy) F' bk rows' ln' (seen++ [r.getD 0 []]):=cD.HC ah aF bv<|HD _ a3
 have bo:=c8.ms aW ah aF
 have bQ:=bU.mw aW ah<|eF.ms ah aF
 have d6:=tY ad
 have G:St a9 w.heap.size (⟨A,I,Y,Z,M,(dj s).length+1⟩:cy) F' rows' ln' (seen++ [r.getD 0 []]):=⟨_,_,bo,bx,⟨aq.len,by rw [bK,iR]; omega,aq.row,aq.kd,aq.al⟩⟩
 have b1:=FW bj ad
 have bM:=Ai bi ad
 exact eK ag<|bn<|tn<|⟨_,by simp only [bX]; have :=tY ad; omega,k - 1,F',rows',ln',seen++ [r.getD 0 []],a1.1,a1.2,G,b1,bM,bQ,aa,aa,aa,aa,aa⟩
 refine nT 5 aa ag aa aa aa (fun _ _=>aJ (.pointer<|some ⟨A,0,none⟩) aa) C<|nT 6 aa ag aa aa aa (fun _ _=>nc aa) C<|nT 7 aa ag aa aa aa (fun _ _=>fa r4 aa) C<|nT 8 aa ag aa aa aa (fun w' J=>ld rE aa<|Wk.aM J<|(a7 ac.cells).trans aa) C<|nT 9 aa ag aa aa aa (fun _ _=>mv) C<|nT 10 aa ag aa aa aa (fun _ _=>bd ec aa aa ab<|aG.ok (aG.wk aT.dG.2 C)<|db ab) C<|nT 11 aa ag aa aa aa (fun w' J=>ld cH aa<|Wk.aM J<|dz.get (i:=0) aT.dG.2 ab) C<|nT 12 aa ag aa aa aa (fun w' J=>lh pY mH gL (bS.md (eb) J id) aa aa (⟨_,aa⟩)<|ed<|r.getD 0 []) C<|nT 13 aa ag aa aa aa (fun _ _=>cw aa aa) C<|hp 14 aa ag (fun _ _=>bI aa) C ?_
 refine r8 15 aa ag aa (c7 gy (gD A n _ 112 ay.drew (Wk.aM C ac.ei) aw) aa fun en aL bz=> ?_) (fun c w' ae aV O=>by
  obtain ⟨rfl,ax,rfl⟩:=ae
  first
   | exact absurd ax aw
   | exact qP rfl aw ((O 2<|.head _).trans rfl) ((O 3<|.tail _<|.head _).trans rfl) (aA.md Wk.dr) (rC an<|Hl aj hk ak ap (fun h=>a4<|by rw [h]; rfl)<|mI.1 fun h=>of_decide_eq_false ax<|by rw [qg.2 h]; rfl))
 obtain ⟨rfl,b4,a6⟩:=bz
 have aH:width (r.getD 0 [])=2→r.getD 0 []∉seen:=by
  first
   | exact fun h=>absurd a4 ab
   | exact fun _=>qg.1<|by have :=of_decide_eq_true b4; omega
 have E:Wk ay aL:=by rw [a6]; exact Wk.dr
 obtain ⟨eh,bJ,bG⟩:=FT ak
 obtain ⟨cN,b2,bE,bF⟩:=FY w.heap.size (⟨A,I,Y,Z,M,(dj s).length+1⟩:cy) F rest n seen r w.heap.size b6 c1 aL ⟨_,_,az.wk E,ac.wk E,ca⟩ (aT.wk E) b0.2.2 ap bj aH ab bJ
 have bH:=bG _ _ b2
 have bA:(fun w'=>Wk ay w') aL:=by rw [a6]; exact C
 refine ⟨bA,?_⟩
 refine hn ag<|tn<|cg _ _<|sq fun cJ bq=>rg aa<|p (fa Fo aa)<|p (ld CM aa<|(a7<|Wk.aB E bh).trans<|congrArg some bH)<|p (aJ (.pointer<|some ⟨A,0,none⟩) aa)<|p mv ?_
 refine eP aa (IB bE aa bF aa fun em aI bw=> ?_) (fun c w' ae aV O=>by
  obtain ⟨l,e,ad,rfl,au⟩:=ae
  exact qP aa aw ((O 2<|.head _).trans aa) ((O 3<|.tail _<|.head _).trans aa) ((aA.md E).mw (az.wk E) (ac.wk E) au) (rC an<|Hm aj hk ak ap aH ad))
 obtain ⟨rfl,F',rows',ln',ad,⟨cK,bk,aW,ah,aq⟩,au⟩:=bw
 have bU:=(aA.md E).mw (az.wk E) (ac.wk E) au
 obtain ⟨ej,bW,_⟩:=ac.sm
 obtain ⟨ek,bY,_⟩:=ac.tm
 obtain ⟨el,bZ,_⟩:=az.cm
 have a0:=(aT.wk E).md au<|Wr.ne (dK<|bW.wk E) (dK<|bY.wk E) (dK<|bZ.wk E) aw
 obtain ⟨fs,a2,a3⟩:=ah.sm
 have dP:=sU (a:=r.getD 0 []) (l:=seen)
 have a1:=Hn aj hk ak ap aH ad
 refine nl<|tn<|bq _ _ ?_
 have G:(fun w'=>Wk aI w') aI.drew:=(Md.refl _ _).drew
 refine eL (fun w'=>Wk aI w') 9 aa wide G<|lq 0 aa ag (fun _ _=>aJ (.pointer<|some ⟨A,0,none⟩) aa) G<|lq 1 aa ag (fun _ _=>nc aa) G<|lq 2 aa ag (fun _ _=>fa r4 aa) G<|lq 3 aa ag (fun w' J=>ld rE aa<|Wk.aM J<|(a7 ah.cells).trans aa) G<|lq 4 aa ag (fun _ _=>mv) G<|lq 5 aa ag (fun _ _=>bd ec aa aa ab<|aG.ok (aG.wk a0.dG.2 G)<|db ab) G<|lq 6 aa ag (fun w' J=>ld cH aa<|Wk.aM J<|dz.get (i:=0) a0.dG.2 ab) G<|lq 7 aa ag (fun w' J=>lh pY mH gL (bS.md (a2) J id) aa aa (⟨_,aa⟩)<|a3<|r.getD 0 []) G<|lq 8 aa ag (fun _ _=>bL ((seen.count (r.getD 0 [])+1:Nat):Int) aa aa<|bm ab ab) G<|dq 9 aa ag ag<|qV pY gL (a2.wk G) aa aa aa (⟨_,aa⟩) fun a9 br bv=> ?_
 have aF:=jb br
 have bx:cD a9 w.heap.size (⟨A,I,Y,Z,M,(dj s).length+1⟩:cy) F' bk rows' ln' (seen++ [r.getD 0 []]):=cD.HC ah aF bv<|HD _ a3
 have bo:=c8.ms aW ah aF
 have bQ:=bU.mw aW ah<|eF.ms ah aF
 have d6:=tY ad
 have G:St a9 w.heap.size (⟨A,I,Y,Z,M,(dj s).length+1⟩:cy) F' rows' ln' (seen++ [r.getD 0 []]):=⟨_,_,bo,bx,⟨aq.len,by rw [bK,iR]; omega,aq.row,aq.kd,aq.al⟩⟩
 have b1:=FW bj ad
 have bM:=Ai bi ad
 exact eK ag<|bn<|tn<|⟨_,by simp only [bX]; have :=tY ad; omega,k - 1,F',rows',ln',seen++ [r.getD 0 []],a1.1,a1.2,G,b1,bM,bQ,aa,aa,aa,aa,aa⟩
 obtain rfl :rows= []:=by
  cases rows with
  | nil=>rfl
  | cons q rest=>exact absurd (by simp only [bX]; omega) bD
 rw [Ho] at aj
 refine ext<|te _<|te _<|be<|dU<|dY<|eC<|rg aa<|p (aJ (.pointer<|some ⟨A,0,none⟩) aa) ?_
 refine eP aa (c7 MN (Nb w.heap.size (⟨A,I,Y,Z,M,(dj s).length+1⟩:cy) F [] ln seen a8 ⟨_,_,O,av,aP⟩ bi.2) aa fun fe cF dx=> ?_) (fun c w' ae aV ce=>by
  obtain ⟨q,bV,rfl,bs⟩:=ae
  exact qP aa aw ((ce 2<|.head _).trans aa) ((ce 3<|.tail _<|.head _).trans aa) (bN.mw O av bs) (Kw an aj.symm bV))
 obtain ⟨rfl,dT,⟨cL,eB,fc,cf,dC⟩,bs⟩:=dx
 have aU:=bN.mw O av bs
 have eV:=aU.lo
 refine nl<|dU<|dY<|eC<|rg aa<|p (aJ (.pointer<|some ⟨A,0,none⟩) aa)<|p (nc aa)<|p (fa gu aa)<|p (ld eX aa<|(a7 dC.cells).trans aa)<|p (di (ps:= []) (L:= [.int .i64 0,.int .i64 0,.int .i64 0]) sv aa<|aa)<|e<|dy zr aa aa (v:= .pointer<|some ⟨I,0,none⟩) aa aU.c2 aw fun fk ch cR=>e<|fY iV aa aa aa aa (ch.aB aU.c3 fun h=>by omega) aw fun eo ci cS=> ?_
 have cj:Md (fun k=>k=aN∨k=aO) cF eo:=(ch.mono fun _ _ h=> .inl h).trans' ci fun _ _ h=> .inr h
 refine nl<|dU<|qQ ?_
 have cq:TF cF [90,47] (fun k=>k=aN∨k=aO):=TF.or (TF.eq (dD aU.c2) aw)<|TF.eq (dD aU.c3) aw
 obtain ⟨fm,dW,_⟩:=cf.cm
 have df:=cf.md cj cq aw<|cq.no (dK dW) aw
 exact Ut aa aw aa aa (ci.aB cR fun h=>by omega) cS aa (fun w' hm=>by
  unfold oB
  rw [Ky an aj.symm dT]
  exact ⟨⟨I,M,cL,aa,df.wk hm,⟨seen,aP⟩,bi⟩,(aU.wk.trans' cj fun k hk h=>by omega).trans hm⟩)
end Go.Hb.gR
end
namespace Go.Hb.gI
def kN (F:aC) (V:eh):List Value:= [.int .i64 (F.kind:Nat),str F.tx,str F.tr,aX (F.sp.getD 0 0),aX (F.sp.getD 1 0),aX (F.sp.getD 2 0),aX (F.sp.getD 3 0),aX (F.sp.getD 4 0),.int .i64 (F.least:Nat),V.v9,V.v10,V.v11,V.v12]
structure ow (w:World) (B:Nat) (F:aC) (V:eh):Prop where
 o9:bq w B 189 2 V.v9 F.du.length (nn F.du)
 gM:bq w B 51 1 V.v10 F.aliases.length V.sa
 al:dE w B 95 V.sa F.aliases
 gh:bq w B 192 5 V.v11 F.bC.length (mm F.bC)
 eo:bq w B 134 7 V.v12 F.rules.length (fX<|F.rules.zip V.rn)
 nx:dE w B 95 V.rn (F.rules.map (·.next))
theorem vw {w:World} {B e:Nat} {vs:List Value} {C:List (List Nat)} (h:dE w B e vs C):vs.all eO=true :=by
 rw [kK]
 intro v A
 obtain ⟨i,hi⟩:=rj A
 have h1:=(eQ.1 hi).1
 obtain ⟨u,hu,q⟩:=dE.get h (i:=i)<|by rw [← h.1]; exact h1
 rw [hi] at hu; cases hu
 obtain ⟨a,c,rfl⟩:=q.slice; rfl
theorem UR {w:World} {B e:Nat} {rs:List cK} {vs:List Value} {A:List (List Nat)} (h:dE w B e vs A):(fX<|rs.zip vs).all eO=true :=by
 rw [kK]
 intro v a
 obtain ⟨q,c,a⟩:=List.mem_flatMap.1 a
 have h1:=kK.1 (vw h) q.2 (List.of_mem_zip c).2
 simp only [dC,eB,yt,or_false] at a
 rcases a with rfl | rfl | rfl | rfl | rfl | rfl | rfl <;> first | rfl | exact h1
theorem US {rs:List cK} {vs:List Value} {i:Nat} {v:Value} (hi:i < rs.length) (E:i < vs.length):(fX<|rs.zip vs).set (i*7 +6) v=fX (rs.zip<|vs.set i v):=by
 obtain ⟨r,C⟩:∃ r,rs[i]? =some r:=⟨_,bW hi⟩
 obtain ⟨u,hu⟩:∃ u,vs[i]? =some u:=⟨_,bW E⟩
 have G:(rs.zip vs)[i]? =some (r,u):=jg.2 ⟨C,hu⟩
 have O:rs.zip (vs.set i v)=(rs.zip vs).set i (r,v):=by
  apply om
  intro j
  rw [kh]
  by_cases A:i=j
  · subst A
    rw [if_pos rfl,if_pos (eQ.1 G).1]
    exact jg.2 ⟨C,by simp [E]⟩
  · rw [if_neg A]
    cases h1:(rs.zip vs)[j]? with
    | none=>
      rw [List.getElem?_eq_none_iff,yq] at h1 ⊢
      rw [uW]; exact h1
    | some q=>
      have h2:=jg.1 h1
      exact jg.2 ⟨h2.1,by rw [kh,if_neg A]; exact h2.2⟩
 have V:(rs.zip vs).length=min rs.length vs.length:=yq
 have a:(fX<|rs.zip vs).length=(rs.zip vs).length*7:=mr (f:=dC) (m:=7) (fun _=>rfl) _
 rw [O,show fX ((rs.zip vs).set i (r,v))=(fX<|rs.zip vs).take (i*7)++dC (r,v)++(fX<|rs.zip vs).drop (i*7 +7) from Fc (f:=dC) (m:=7) (fun _=>rfl) _ ab]
 apply om
 intro j
 have I:=fun c a=>wc (f:=dC) (m:=7) (fun _=>rfl) (c:=c) G a
 have J:∀ c,c < 7→(fX<|rs.zip vs)[i*7 +c]? =(dC (r,u))[c]? :=fun c h=>I c h
 have M:((fX<|rs.zip vs).take<|i*7).length=i*7:=by rw [ee,a]; omega
 rw [kh]
 by_cases h1:j < i*7
 · rw [if_neg ab,dZ,mK ab,List.getElem?_take,if_pos h1]
 · rw [dZ,nD ab,M]
   by_cases h2:j < i*7 +7
   · rw [mK (by show _ < 7; omega)]
     obtain ⟨c,rfl⟩:∃ c,j=i*7 +c:=⟨j - i*7,ab⟩
     have h3:c < 7:=ab
     rw [J c h3,show i*7 +c - i*7=c by omega]
     match c,h3 with
     | 0,_=>rw [if_neg ab]; rfl
     | 1,_=>rw [if_neg ab]; rfl
     | 2,_=>rw [if_neg ab]; rfl
     | 3,_=>rw [if_neg ab]; rfl
     | 4,_=>rw [if_neg ab]; rfl
     | 5,_=>rw [if_neg ab]; rfl
     | 6,_=>rw [if_pos rfl,if_pos ab]; rfl
   · rw [if_neg ab,nD (by show 7≤_; omega),show (dC (r,v)).length=7 from rfl,List.getElem?_drop]
     congr 1; omega
theorem kV {l:List (cK×Value)} {i:Nat} {q:cK×Value} (h:l[i]? =some q):fX l≠[]:=fun h2=>by
 have h3:(fX l).length=l.length*7:=mr (f:=dC) (m:=7) (fun _=>rfl) _
 have h4:=(eQ.1 h).1
 rw [h2] at h3
 have h5:0=l.length*7:=h3
 omega
theorem yK {F:aC} {V:eh} (C:V.v9.oneCell'=true) (c:V.v10.oneCell'=true) (q:V.v11.oneCell'=true) (A:V.v12.oneCell'=true):(kN F V).all eO=true :=by
 rw [kK]
 intro v a
 simp only [kN,eB,yt,or_false] at a
 rcases a with rfl | rfl | rfl | rfl | rfl | rfl | rfl | rfl | rfl | rfl | rfl | rfl | rfl <;> first | rfl | assumption
theorem Lb {w:World} {B fb mc:Nat} {F:aC} {V:eh} (h:c8 w B fb mc F V):(kN F V).all eO=true :=yK (eM h.o9) (eM h.gM) (eM h.gh)<|eM h.eo
theorem zx {α:Type} {l m:List α} {i:Nat} (h:l.drop i=m.drop i):l[i]? =m[i]? :=by
 have h1:=congrArg (·[0]?) h
 simpa using h1
theorem Bi {α:Type} {l:List α} {i:Nat} {x:α} (h:i < l.length):(l.set i x).take (i+1)=l.take i++ [x]:=by
 rw [List.take_add_one,List.take_set_of_le (cz i)]; simp [h]
theorem set_drop {α:Type} {l m:List α} {i:Nat} {x:α} (h:l.drop i=m.drop i):(l.set i x).drop (i+1)=m.drop (i+1):=by
 rw [List.drop_set_of_lt (Nat.lt_succ_self i),show i.succ=i+1 from rfl]
 simpa [List.drop_drop] using congrArg (List.drop 1) h
theorem CW {w:World} {B e i:Nat} {vs:List Value} {a:List (List Nat)} {v:Value} (h:dE w B e (vs.take i) (a.take i)) (hi:i < a.length) (q:i < vs.length) (c:Tg w B e (a.getD i []).length v ((a.getD i []).map aX)):dE w B e ((vs.set i v).take<|i+1) (a.take<|i+1):=by
 rw [Bi q,kX a i [] hi]; exact h.snoc c
theorem NB (a:Option Addr) (n c:Nat) (xs:List Value) (w:World) (O:aG w.heap a xs) (ag:xs.length=n*2) (Z:a=none→n=0) (h1:xs.all eO=true) (hn:n≤1048576):
 bf ao 80 (ba [.slice a n c]) w (fun ai w'=>bq w' w.heap.size 189 2 ai n xs∧Wk w w'):=by
 refine enter func80 aa ntmps80 aa<|ak fun G=>ay<|G<|az fun I=>ak fun J=>au (.slice a n c)<|p (pK Wu aa aa)<|nl<|J<|cb aa (fun C=> ?_) fun C=> ?_
 have ac:a=none:=by simpa using C
 refine ak fun q=>ay<|q<|rt<|tr<|bc aa ?_
 have ad:=Z ac
 subst ad
 obtain rfl :=gx (show xs.length=0 by omega)
 exact ⟨dS _ _ _ _,Md.refl _ _⟩
 refine aR<|I<|ak fun q=>e<|pF xw fun am aw an A M=> ?_
 have E:=M w.heap.size ab
 refine au (.slice a n c)<|e<|ap xw (E) aa (by have :=A.size; omega) aa (O.wk A.md) (ag) (h1) ab ab fun aj al ae Y av aq=> ?_
 have V:=Wk.own A.md E Y<|cz _
 refine ay<|q<|rt<|bc aa ?_
 have ah:bq al w.heap.size 189 2 aj n xs:=by simpa using ae
 exact ⟨ah,V⟩
theorem NA (v:Value) (n:Nat) (xs:List Value) (w:World) (C:Rd w.heap v n 2 xs) (h1:xs.all eO=true) (hn:n≤1048576):bf ao 80 [v].toArray w (fun v w'=>bq w' w.heap.size 189 2 v n xs∧Wk w w'):=by
 obtain ⟨a,c,rfl,q,E,A⟩:=C
 exact NB a n c xs w q E A h1 hn
theorem Ns (a:Option Addr) (n c:Nat) (xs:List Value) (w:World) (O:aG w.heap a xs) (ag:xs.length=n*5) (Z:a=none→n=0) (h1:xs.all eO=true) (hn:n≤1048576):
 bf ao 81 (ba [.slice a n c]) w (fun ai w'=>bq w' w.heap.size 192 5 ai n xs∧Wk w w'):=by
 refine enter func81 aa ntmps81 aa<|ak fun G=>ay<|G<|az fun I=>ak fun J=>au (.slice a n c)<|p (pK Ii aa aa)<|nl<|J<|cb aa (fun C=> ?_) fun C=> ?_
 have ac:a=none:=by simpa using C
 refine ak fun q=>ay<|q<|rt<|tr<|bc aa ?_
 have ad:=Z ac
 subst ad
 obtain rfl :=gx (show xs.length=0 by omega)
 exact ⟨dS _ _ _ _,Md.refl _ _⟩
 refine aR<|I<|ak fun q=>e<|pF xy fun am aw an A M=> ?_
 have E:=M w.heap.size ab
 refine au (.slice a n c)<|e<|ap xy (E) aa (by have :=A.size; omega) aa (O.wk A.md) (ag) (h1) ab ab fun aj al ae Y av aq=> ?_
 have V:=Wk.own A.md E Y<|cz _
 refine ay<|q<|rt<|bc aa ?_
 have ah:bq al w.heap.size 192 5 aj n xs:=by simpa using ae
 exact ⟨ah,V⟩
theorem Nr (v:Value) (n:Nat) (xs:List Value) (w:World) (C:Rd w.heap v n 5 xs) (h1:xs.all eO=true) (hn:n≤1048576):bf ao 81 [v].toArray w (fun v w'=>bq w' w.heap.size 192 5 v n xs∧Wk w w'):=by
 obtain ⟨a,c,rfl,q,E,A⟩:=C
 exact Ns a n c xs w q E A h1 hn
theorem NG (a:Option Addr) (n c:Nat) (xs:List Value) (w:World) (O:aG w.heap a xs) (ag:xs.length=n*1) (Z:a=none→n=0) (h1:xs.all eO=true) (hn:n≤1048576):
 bf ao 82 (ba [.slice a n c]) w (fun ai w'=>bq w' w.heap.size 51 1 ai n xs∧Wk w w'):=by
 refine enter func82 aa ntmps82 aa<|ak fun G=>ay<|G<|az fun I=>ak fun J=>au (.slice a n c)<|p (pK xK aa aa)<|nl<|J<|cb aa (fun C=> ?_) fun C=> ?_
 have ac:a=none:=by simpa using C
 refine ak fun q=>ay<|q<|rt<|tr<|bc aa ?_
 have ad:=Z ac
 subst ad
 obtain rfl :=gx (show xs.length=0 by omega)
 exact ⟨dS _ _ _ _,Md.refl _ _⟩
 refine aR<|I<|ak fun q=>e<|pF xx fun am aw an A M=> ?_
 have E:=M w.heap.size ab
 refine au (.slice a n c)<|e<|ap xx (E) aa (by have :=A.size; omega) aa (O.wk A.md) (ag) (h1) ab ab fun aj al ae Y av aq=> ?_
 have V:=Wk.own A.md E Y<|cz _
 refine ay<|q<|rt<|bc aa ?_
 have ah:bq al w.heap.size 51 1 aj n xs:=by simpa using ae
 exact ⟨ah,V⟩
theorem NF (v:Value) (n:Nat) (xs:List Value) (w:World) (C:Rd w.heap v n 1 xs) (h1:xs.all eO=true) (hn:n≤1048576):bf ao 82 [v].toArray w (fun v w'=>bq w' w.heap.size 51 1 v n xs∧Wk w w'):=by
 obtain ⟨a,c,rfl,q,E,A⟩:=C
 exact NG a n c xs w q E A h1 hn
theorem ND (a:Option Addr) (n c:Nat) (xs:List Value) (w:World) (O:aG w.heap a xs) (ag:xs.length=n*7) (Z:a=none→n=0) (h1:xs.all eO=true) (hn:n≤1048576):
 bf ao 83 (ba [.slice a n c]) w (fun ai w'=>bq w' w.heap.size 134 7 ai n xs∧Wk w w'):=by
 refine enter func83 aa ntmps83 aa<|ak fun G=>ay<|G<|az fun I=>ak fun J=>au (.slice a n c)<|p (pK pX aa aa)<|nl<|J<|cb aa (fun C=> ?_) fun C=> ?_
 have ac:a=none:=by simpa using C
 refine ak fun q=>ay<|q<|rt<|tr<|bc aa ?_
 have ad:=Z ac
 subst ad
 obtain rfl :=gx (show xs.length=0 by omega)
 exact ⟨dS _ _ _ _,Md.refl _ _⟩
 refine aR<|I<|ak fun q=>e<|pF xq fun am aw an A M=> ?_
 have E:=M w.heap.size ab
 refine au (.slice a n c)<|e<|ap xq (E) aa (by have :=A.size; omega) aa (O.wk A.md) (ag) (h1) ab ab fun aj al ae Y av aq=> ?_
 have V:=Wk.own A.md E Y<|cz _
 refine ay<|q<|rt<|bc aa ?_
 have ah:bq al w.heap.size 134 7 aj n xs:=by simpa using ae
 exact ⟨ah,V⟩
theorem NC (v:Value) (n:Nat) (xs:List Value) (w:World) (C:Rd w.heap v n 7 xs) (h1:xs.all eO=true) (hn:n≤1048576):bf ao 83 [v].toArray w (fun v w'=>bq w' w.heap.size 134 7 v n xs∧Wk w w'):=by
 obtain ⟨a,c,rfl,q,E,A⟩:=C
 exact ND a n c xs w q E A h1 hn
theorem Nu (a:Option Addr) (n c:Nat) (xs:List Value) (w:World) (O:aG w.heap a xs) (ag:xs.length=n*2) (Z:a=none→n=0) (h1:xs.all eO=true) (hn:n≤1048576):
 bf ao 84 (ba [.slice a n c]) w (fun ai w'=>bq w' w.heap.size 53 2 ai n xs∧Wk w w'):=by
 refine enter func84 aa ntmps84 aa<|ak fun G=>ay<|G<|az fun I=>ak fun J=>au (.slice a n c)<|p (pK xH aa aa)<|nl<|J<|cb aa (fun C=> ?_) fun C=> ?_
 have ac:a=none:=by simpa using C
 refine ak fun q=>ay<|q<|rt<|tr<|bc aa ?_
 have ad:=Z ac
 subst ad
 obtain rfl :=gx (show xs.length=0 by omega)
 exact ⟨dS _ _ _ _,Md.refl _ _⟩
 refine aR<|I<|ak fun q=>e<|pF xr fun am aw an A M=> ?_
 have E:=M w.heap.size ab
 refine au (.slice a n c)<|e<|ap xr (E) aa (by have :=A.size; omega) aa (O.wk A.md) (ag) (h1) ab ab fun aj al ae Y av aq=> ?_
 have V:=Wk.own A.md E Y<|cz _
 refine ay<|q<|rt<|bc aa ?_
 have ah:bq al w.heap.size 53 2 aj n xs:=by simpa using ae
 exact ⟨ah,V⟩
theorem Nt (v:Value) (n:Nat) (xs:List Value) (w:World) (C:Rd w.heap v n 2 xs) (h1:xs.all eO=true) (hn:n≤1048576):bf ao 84 [v].toArray w (fun v w'=>bq w' w.heap.size 53 2 v n xs∧Wk w w'):=by
 obtain ⟨a,c,rfl,q,E,A⟩:=C
 exact Nu a n c xs w q E A h1 hn
theorem Nz (a:Option Addr) (n c:Nat) (xs:List Value) (w:World) (O:aG w.heap a xs) (ag:xs.length=n*1) (Z:a=none→n=0) (h1:xs.all eO=true) (hn:n≤1048576):
 bf ao 215 (ba [.slice a n c]) w (fun ai w'=>bq w' w.heap.size 3 1 ai n xs∧Wk w w'):=by
 refine enter func215 aa ntmps215 aa<|ak fun G=>ay<|G<|az fun I=>ak fun J=>au (.slice a n c)<|p (pK oQ aa aa)<|nl<|J<|cb aa (fun C=> ?_) fun C=> ?_
 have ac:a=none:=by simpa using C
 refine ak fun q=>ay<|q<|rt<|tr<|bc aa ?_
 have ad:=Z ac
 subst ad
 obtain rfl :=gx (show xs.length=0 by omega)
 exact ⟨dS _ _ _ _,Md.refl _ _⟩
 refine aR<|I<|ak fun q=>e<|pF nq fun am aw an A M=> ?_
 have E:=M w.heap.size ab
 refine au (.slice a n c)<|e<|ap nq (E) aa (by have :=A.size; omega) aa (O.wk A.md) (ag) (h1) ab ab fun aj al ae Y av aq=> ?_
 have V:=Wk.own A.md E Y<|cz _
 refine ay<|q<|rt<|bc aa ?_
 have ah:bq al w.heap.size 3 1 aj n xs:=by simpa using ae
 exact ⟨ah,V⟩
theorem Nv (v:Value) (n:Nat) (xs:List Value) (w:World) (C:Rd w.heap v n 1 xs) (h1:xs.all eO=true) (hn:n≤1048576):bf ao 215 [v].toArray w (fun v w'=>bq w' w.heap.size 3 1 v n xs∧Wk w w'):=by
 obtain ⟨a,c,rfl,q,E,A⟩:=C
 exact Nz a n c xs w q E A h1 hn
theorem tg (B fb mc:Nat) (F:aC) (V:eh) (w:World) (aO:c8 w B fb mc F V) (dU:F.du.length+F.aliases.length+F.bC.length+F.rules.length≤70000) (bX:Nx F):
 bf ao 41 (ba [aU fb]) w (fun v w'=>(∃ bz,v= .agg (kN F bz).toArray∧ow w' w.heap.size F bz)∧Wk w w'):=by
 refine enter func41 aa ntmps41 aa<|ak fun cq=>e<|gn IM fun bg ac dW bk bE=> ?_
 have d0:=bk.size
 have ai:=aO.wk bk.md
 refine nl<|cq<|az fun cA=>ak fun cB=>au (aU fb)<|p (lN uA aa aa)<|nl<|cB<|cf (aa)<|aR<|cA<|ak fun cD=>au (aU fb)<|p (nc aa) ?_
 refine p (fa fU aa)<|p (cg yE aa (aa) (show ∀ j,j < 13→Hb.aM ac.heap fb (0 +j)=(kN F V)[j]? from fun j aV=>(a7 ai.cells).trans<|by match j,aV with | 0,_=>rfl | 1,_=>rfl | 2,_=>rfl | 3,_=>rfl | 4,_=>rfl | 5,_=>rfl | 6,_=>rfl | 7,_=>rfl | 8,_=>rfl | 9,_=>rfl | 10,_=>rfl | 11,_=>rfl | 12,_=>rfl))<|e<|gn IM fun Z C dX bN cM=> ?_
 have d3:=bN.size
 refine e<|fY zq aa aa aa (Lb ai) cM aw fun a3 bM cN=> ?_
 have bF:Wk ac a3:=bN.md.trans' bM fun q a h=>by omega
 have d4:=bM.size
 have cY:=ai.wk bF
 have aS:a3.heap[Z]? =some (.cells (kN F ⟨V.v9,V.v10,V.v11,V.v12,V.sa,V.rn⟩).toArray 102 (0,0)):=cN
 refine nl<|cD<|ak fun cE=>p (fa wi aa)<|p (ld CQ aa<|(a7 aS).trans aa)<|e<|cl MQ (NA V.v9 F.du.length (nn F.du) a3 (Rd.kF cY.o9) (zS (fun _=>rfl) _) ab) aa fun O cm c0=> ?_
 obtain ⟨b0,bi⟩:=c0
 have dZ:=bi.size
 have b2:=e5 b0 (show C.heap.size≤a3.heap.size by omega)
 refine p (fa wi aa)<|e<|dy Ep aa aa (v:=O) (eM b0) (bi.aB aS) (by show _ < 13; omega) fun a4 bj cO=> ?_
 have bI:Wk ac a4:=(bF.trans bi).trans' bj fun q a h=>by omega
 have d5:=bj.size
 have cZ:=ai.wk bI
 have b3:=cx b2 bj fun q a h=>by have :=(cV b2 a).1; omega
 have bS:a4.heap[Z]? =some (.cells (kN F ⟨O,V.v10,V.v11,V.v12,V.sa,V.rn⟩).toArray 102 (0,0)):=cO
 refine nl<|cE<|ak fun cF=>p (fa rZ aa)<|p (ld vu aa<|(a7 bS).trans aa)<|e<|cl MR (Nr V.v11 F.bC.length (mm F.bC) a4 (Rd.kF cZ.gh) (zS (fun _=>rfl) _) ab) aa fun v20 ec c1=> ?_
 obtain ⟨b5,aE⟩:=c1
 have d1:=aE.size
 have b6:=e5 b5 (show C.heap.size≤a4.heap.size by omega)
 refine p (fa rZ aa)<|e<|dy Es aa aa (v:=v20) (eM b5) (aE.aB bS) (by show _ < 13; omega) fun a5 aQ cP=> ?_
 have bJ:Wk ac a5:=(bI.trans aE).trans' aQ fun q a h=>by omega
 have d7:=aQ.size
 have bL:=ai.wk bJ
 have b4:=cx (a8 b3 aE) aQ fun q a h=>by have :=(cV (a8 b3 aE) a).1; omega
 have b7:=cx b6 aQ fun q a h=>by have :=(cV b6 a).1; omega
 have bT:a5.heap[Z]? =some (.cells (kN F ⟨O,V.v10,v20,V.v12,V.sa,V.rn⟩).toArray 102 (0,0)):=cP
 refine nl<|cF<|ak fun cG=>p (fa oI aa)<|p (ld qu aa<|(a7 bT).trans aa)<|e<|cl MS (NF V.v10 F.aliases.length V.sa a5 (Rd.kF bL.gM) (vw bL.al) ab) aa fun v24 ed c2=> ?_
 obtain ⟨b8,an⟩:=c2
 have d2:=an.size
 have b9:=e5 b8 (show C.heap.size≤a5.heap.size by omega)
 refine p (fa oI aa)<|e<|dy Er aa aa (v:=v24) (eM b8) (an.aB bT) (by show _ < 13; omega) fun co aH cQ=> ?_
 have cX:Wk ac co:=(bJ.trans an).trans' aH fun q a h=>by omega
 have d8:=aH.size
 have dv:=cx (a8 b4 an) aH fun q a h=>by have :=(cV (a8 b4 an) a).1; omega
 have dl:=cx (a8 b7 an) aH fun q a h=>by have :=(cV (a8 b7 an) a).1; omega
 have bY:=cx b9 aH fun q a h=>by have :=(cV b9 a).1; omega
 have bU:co.heap[Z]? =some (.cells (kN F ⟨O,v24,v20,V.v12,V.sa,V.rn⟩).toArray 102 (0,0)):=cQ
 obtain ⟨ae,k8,rfl⟩:=cT bY
 have dO:=aO.al.1
 refine nl<|cG<|az fun cH=>ak fun cI=>p (fa oI aa)<|p (ld qu aa<|(a7 bU).trans aa)<|p (bP xK aa aa)<|p mv<|nl<|cI<|aB<|lp (fun aD ax E=> ∃ (i:Nat) (sa:List Value),(i≤F.aliases.length)∧(sa.length=F.aliases.length)∧(sa.drop i=V.sa.drop i)∧(dE E C.heap.size 95 (sa.take i)<|F.aliases.take i)∧(bq E C.heap.size 51 1 (.slice ae F.aliases.length k8) F.aliases.length<|sa)∧(bq E C.heap.size 189 2 (O) F.du.length<|nn F.du)∧(bq E C.heap.size 192 5 (v20) F.bC.length<|mm F.bC)∧(E.heap[Z]? =some (.cells (kN F ⟨O,.slice ae F.aliases.length k8,v20,V.v12,V.sa,V.rn⟩).toArray 102 (0,0)))∧(Wk ac E)∧(C.heap.size≤E.heap.size)∧(ax 2=aU bg)∧(ax 3=aU Z)∧(ax 27= .slice ae F.aliases.length k8)∧(ax 28=aj (F.aliases.length))∧(ax 29=aj i)∧(F.aliases.length - i=aD)) _ ⟨0,V.sa,ab,dO,aa,(dE.nil _ _ _),bY,dv,dl,bU,cX,(ab),aa,aa,aa,aa,aa,aa⟩ ?_
 rintro aD ax E ⟨i,sa,hi,aK,ce,br,M,a1,aZ,aI,aN,d9,dD,dJ,dF,dH,dI,rfl⟩
 refine fx 2 dD<|fx 3 dJ<|fx 27 dF<|fx 28 dH<|fx 29 dI<|ak fun ct=>p (lt aa aa)<|nl<|ct<|az fun cu=>cd aa (fun aS=> ?_) fun aS=> ?_
 refine aR<|cu<|az fun a9=>aB<|az fun bb=> ?_
 obtain ⟨eb,dP,bm⟩:=dE.get (ai.wk aN).al (show i < F.aliases.length by omega)
 obtain ⟨cJ,ci,rfl⟩:=bm.slice
 refine rg aa<|au (aj i)<|p (bd zD aa aa ab<|aG.ok ((a6 M).2) fun h=>by rw [h] at aK; simp at aK; omega)<|p (ld mh aa<|aG.jk (a6 M).2<|(zx ce).trans dP)<|p (cj (aj i) aa)<|ay<|bb ?_
 have am:(fun w'=>Wk E w') E.drew:=(Md.refl _ _).drew
 refine eL (fun w'=>Wk E w') 6 aa wide am<|lq 0 aa ag (fun _ _=>fa oI aa) am<|lq 1 aa ag (fun w' av=>ld qu aa<|Wk.aM av<|(a7 aI).trans aa) am<|lq 2 aa ag (fun _ _=>aJ (aj i) aa) am<|lq 3 aa ag (fun _ _=>mv) am<|ja 4 aa ag<|cl rN (rP cJ (F.aliases.getD i []).length ci ((F.aliases.getD i []).map aX) E.drew (aG.wk bm.dG.2 am) (by simp) (fun h=>Tg.sj bm (by simp) h) (rG _)<|by have :=bX.1 _ (eZ (d:= []) (show i < F.aliases.length by omega)); omega) aa fun dR cn c3=> ?_
 obtain ⟨bt,bH⟩:=c3
 have G:Wk E cn:=am.trans bH
 have c6:=G
 have bO:(fun w'=>Wk E w') cn:=am.trans bH
 refine ⟨bO,?_⟩
 refine lq 5 aa ag (fun _ _=>bd zD aa aa ab<|aG.ok ((a6 M).2) fun h=>by rw [h] at aK; simp at aK; omega) bO<|dq 6 aa ag ag<|sw (j:=i) (a8 M G) rR aa aa (eM bt) (by simp) ab fun dS ap dg=> ?_
 have cS:Wk ac dS:=Wk.own (aN.trans G) (a8 M G) ap ab
 have dp:=cx (e5 bt (show C.heap.size≤E.heap.size by omega)) ap fun q a=>n0 bt (a8 M G) aw a
 have c9:=(br.wk G).md ap<|jD (a8 M G) aw
 have ds:=cx (a8 a1 G) ap fun q a=>n0 (a8 a1 G) (a8 M G) aw a
 have dj:=cx (a8 aZ G) ap fun q a=>n0 (a8 aZ G) (a8 M G) aw a
 have dd:=ap.aB (Wk.aB G aI) fun h=>by have :=(cV (a8 M G) h).1; omega
 exact eK ag<|bn<|a9<|rg aa<|p (ad aa aa<|cC ab)<|p mv<|nl<|tn<|⟨_,ab,i+1,sa.set i dR,ab,(by rw [uW]; exact aK),(set_drop ce),(CW c9 ab ab<|Tg.kF dp),dg,ds,dj,dd,cS,(by have :=c6.size; have :=ap.size; omega),aa,aa,aa,aa,aa,aa⟩
 refine ext<|bh<|bh<|be<|cH<|ak fun a9=>p (fa na aa)<|p (ld jM aa<|(a7 aI).trans aa)<|e<|cl MT (NC V.v12 F.rules.length (fX<|F.rules.zip V.rn) E (Rd.kF (ai.wk aN).eo) (UR aO.nx) ab) aa fun ch ee c4=> ?_
 obtain ⟨ca,Y⟩:=c4
 have d6:=Y.size
 have cb:=e5 ca (show C.heap.size≤E.heap.size by omega)
 rw [e9 ab,e9 ab] at br
 refine p (fa na aa)<|e<|dy Eh aa aa (v:=ch) (eM ca) (Wk.aB Y aI) (by show _ < 13; omega) fun ck aq cK=> ?_
 have cU:Wk ac ck:=(aN.trans Y).trans' aq fun q a h=>by omega
 have dY:=aq.size
 have dw:=cx (a8 a1 Y) aq fun q a h=>by have :=(cV (a8 a1 Y) a).1; omega
 have di:=cx (a8 M Y) aq fun q a h=>by have :=(cV (a8 M Y) a).1; omega
 have dn:=cx (a8 aZ Y) aq fun q a h=>by have :=(cV (a8 aZ Y) a).1; omega
 have bZ:=cx cb aq fun q a h=>by have :=(cV cb a).1; omega
 have db:=(br.wk Y).md aq<|ic (Wk.aB Y aI) aw
 have bR:ck.heap[Z]? =some (.cells (kN F ⟨O,.slice ae F.aliases.length k8,v20,ch,V.sa,V.rn⟩).toArray 102 (0,0)):=cK
 obtain ⟨a12,aA,rfl⟩:=cT bZ
 have dA:V.rn.length=F.rules.length:=by have :=aO.nx.1; rwa [e8] at this
 refine nl<|a9<|az fun bb=>ak fun cv=>p (fa na aa)<|p (ld jM aa<|(a7 bR).trans aa)<|p (bP pX aa aa)<|p mv<|nl<|cv<|aB<|lp (fun aD aL A=> ∃ (i:Nat) (rn:List Value),(i≤F.rules.length)∧(rn.length=F.rules.length)∧(rn.drop i=V.rn.drop i)∧(dE A C.heap.size 95 (rn.take i)<|(F.rules.map (·.next)).take i)∧(bq A C.heap.size 134 7 (.slice a12 F.rules.length aA) F.rules.length<|fX<|F.rules.zip rn)∧(bq A C.heap.size 189 2 (O) F.du.length<|nn F.du)∧(bq A C.heap.size 51 1 (.slice ae F.aliases.length k8) F.aliases.length<|sa)∧(dE A C.heap.size 95 sa F.aliases)∧(bq A C.heap.size 192 5 (v20) F.bC.length<|mm F.bC)∧(A.heap[Z]? =some (.cells (kN F ⟨O,.slice ae F.aliases.length k8,v20,.slice a12 F.rules.length aA,V.sa,V.rn⟩).toArray 102 (0,0)))∧(Wk ac A)∧(C.heap.size≤A.heap.size)∧(aL 2=aU bg)∧(aL 3=aU Z)∧(aL 47=aj (F.rules.length))∧(aL 48=aj i)∧(F.rules.length - i=aD)) _ ⟨0,V.rn,ab,dA,aa,(dE.nil _ _ _),bZ,dw,di,db,dn,bR,cU,(ab),aa,aa,aa,aa,aa⟩ ?_
 rintro aD aL A ⟨i,rn,hi,dB,cc,bs,I,a2,aY,bQ,a0,aT,aF,ea,dK,dL,dM,dN,rfl⟩
 refine fx 2 dK<|fx 3 dL<|fx 47 dM<|fx 48 dN<|ak fun cw=>p (lt aa aa)<|nl<|cw<|az fun cy=>cd aa (fun dc=> ?_) fun dc=> ?_
 refine aR<|cy<|az fun bc=>aB<|az fun cz=> ?_
 obtain ⟨vn,dQ,bo⟩:=dE.get (ai.wk aF).nx (show i < (F.rules.map (·.next)).length by rw [e8]; omega)
 obtain ⟨bA,bB,rfl⟩:=bo.slice
 obtain ⟨q,bv⟩:∃ q,F.rules[i]? =some q:=⟨_,bW ab⟩
 have dz:(F.rules.map (·.next)).getD i []=q.next:=by rw [cR,fH,bv]; rfl
 have dx:=bX.2 q<|fz bv
 rw [← dz] at dx
 have bx:(F.rules.zip rn)[i]? =some (q,.slice bA ((F.rules.map (·.next)).getD i []).length bB):=jg.2 ⟨bv,(zx cc).trans dQ⟩
 refine rg aa<|au (aj i)<|p (cj (aj i) aa)<|nl<|cz ?_
 have J:(fun w'=>Wk A w') A.drew:=(Md.refl _ _).drew
 refine eL (fun w'=>Wk A w') 12 aa wide J<|bG 0 aa (fun _=>fa na aa) (fun _=>J)<|ez 1 aa (fun w' av=>ld jM aa<|Wk.aM av<|(a7 aT).trans aa) J<|bw 2 aa (aj i) J<|bG 3 aa (fun _=>fa na aa) (fun _=>J)<|ez 4 aa (fun w' av=>ld jM aa<|Wk.aM av<|(a7 aT).trans aa) J<|bw 5 aa (aj i) J<|bG 6 aa (fun _=>bd ky aa aa ab<|aG.ok ((a6 I).2)<|kV bx) (fun _=>J)<|bG 7 aa (fun _=>fa pN aa) (fun _=>J)<|ez 8 aa (fun w' av=>ld mh aa<|Wk.aM av<|gr (f:=dC) (m:=7) (fun _=>rfl) (a6 I).2 bx 6 aw) J<|ja 9 aa ag<|cl rN (rP bA ((F.rules.map (·.next)).getD i []).length bB (((F.rules.map (·.next)).getD i []).map aX) A.drew (aG.wk bo.dG.2 J) (by simp) (fun h=>Tg.sj bo (by simp) h) (rG _) ab) aa fun v60 cp c5=> ?_
 obtain ⟨bu,bK⟩:=c5
 have c:Wk A cp:=J.trans bK
 have c7:=c
 have bl:(fun w'=>Wk A w') cp:=J.trans bK
 refine ⟨bl,?_⟩
 refine bG 10 aa (fun _=>bd ky aa aa ab<|aG.ok ((a6 I).2)<|kV bx) (fun _=>bl)<|bG 11 aa (fun _=>fa pN aa) (fun _=>bl)<|dq 12 aa ag ag<|sw (j:=i*7 +6) (a8 I c) rR aa aa (eM bu) (by rw [Int.toNat_natCast]; omega) ab fun cm ah b1=> ?_
 rw [US ab ab] at b1
 have cW:Wk ac cm:=Wk.own (aF.trans c) (a8 I c) ah ab
 have dr:=cx (e5 bu (show C.heap.size≤A.heap.size by omega)) ah fun q a=>n0 bu (a8 I c) aw a
 have df:=(bs.wk c).md ah<|jD (a8 I c) aw
 have da:=(bQ.wk c).md ah<|jD (a8 I c) aw
 have dt:=cx (a8 a2 c) ah fun q a=>n0 (a8 a2 c) (a8 I c) aw a
 have dh:=cx (a8 aY c) ah fun q a=>n0 (a8 aY c) (a8 I c) aw a
 have dk:=cx (a8 a0 c) ah fun q a=>n0 (a8 a0 c) (a8 I c) aw a
 have de:=ah.aB (Wk.aB c aT) fun h=>by have :=(cV (a8 I c) h).1; omega
 exact eK ag<|bn<|bc<|rg aa<|p (ad aa aa<|cC ab)<|p mv<|nl<|tn<|⟨_,ab,i+1,rn.set i v60,ab,(by rw [uW]; exact dB),(set_drop cc),(CW df (by rw [e8]; omega) ab<|Tg.kF dr),b1,dt,dh,da,dk,de,cW,(by have :=c7.size; have :=ah.size; omega),aa,aa,aa,aa,aa⟩
 refine ext<|bh<|bh<|be<|bb<|ak fun bc=>p (cg yE aa (aa) (show ∀ j,j < 13→Hb.aM A.heap Z (0 +j)=(kN F ⟨O,.slice ae F.aliases.length k8,v20,.slice a12 F.rules.length aA,V.sa,V.rn⟩)[j]? from fun j aV=>(a7 aT).trans<|by match j,aV with | 0,_=>rfl | 1,_=>rfl | 2,_=>rfl | 3,_=>rfl | 4,_=>rfl | 5,_=>rfl | 6,_=>rfl | 7,_=>rfl | 8,_=>rfl | 9,_=>rfl | 10,_=>rfl | 11,_=>rfl | 12,_=>rfl))<|e<|fY zq aa aa aa (yK (eM a2) (eM aY) (eM a0)<|eM I) (Wk.aB aF bE) aw fun dT aP cL=>nl<|bc<|rt<|tK aa (dV (cs:=kN F ⟨O,.slice ae F.aliases.length k8,v20,.slice a12 F.rules.length aA,V.sa,V.rn⟩) aa yE aa fun j aV=>(bD.bp ⟨_,cL⟩ j).trans aa) ?_
 have aW:∀ {t s n:Nat} {v:Value} {xs:List Value},bq A C.heap.size t s v n xs→bq dT w.heap.size t s v n xs:=fun h=>e5 (cx h aP fun q a h2=>by have :=(cV h a).1; omega) ab
 rw [e9 ab,e9 (by rw [e8]; omega)] at bs
 have bV:∀ k,k=bg→∀ cur z,A.heap[k]?≠some (.cells cur 95 z):=ic (Wk.aB aF bE) aw
 exact ⟨⟨⟨O,.slice ae F.aliases.length k8,v20,.slice a12 F.rules.length aA,sa,rn⟩,aa,⟨aW a2,aW aY,(bQ.md aP bV).mono ab,aW a0,aW I,(bs.md aP bV).mono ab⟩⟩,(bk.md.trans aF).trans' aP fun q a h=>by omega⟩
end Go.Hb.gI
section
namespace Go.Hb
open Go.Hb.qm Go.Hb.gR Go.Hb.gI
noncomputable def la (r:List Tx):Nat×Int:=if r.length≠1 then (0,111) else fC (r.getD 0 []) 8192
def Kk (w0 w':World) (X:Except Nat bj) (v:Value):Prop :=(∃ x a,X= .ok x∧v= .tuple #[.agg [str x.1,a].toArray,.int .i64 (0:Nat)]∧bq w' w0.heap.size 95 1 a x.2.length (x.2.map aX))∨(∃ e,X= .error e∧e≠0∧v= .tuple #[.agg [str [],.slice none 0 0].toArray,.int .i64 (e:Nat)])
theorem G4 {s:Tx} {i:Nat} (hi:i < s.length):(s.take<|i+1).drop i= [s.getD i 0]:=by
 rw [Bk 0 (cz i) hi,lC (by rw [ee]; omega),List.nil_append]
theorem Is (b:UInt8):oS [b]=iM b:=by unfold oS; rw [Lv]; cases iM b <;> rfl
theorem Ev {F:aC} {x:Nat} (h:(dM F.bC x).isSome=true∨x∈F.sp):eu F x=true :=by
 unfold eu; rcases h with h | h
 · rw [h,Bool.or_true]
 · rw [decide_eq_true h]; rfl
theorem OM {F:aC} {x:Nat} (h:(dM F.bC x).isSome=false) (h1:x∉F.sp):eu F x=false :=by
 unfold eu; rw [h,decide_eq_false h1]; rfl
theorem Vs {F:aC} (h:F.sp.length=5):[F.sp.getD 0 0,F.sp.getD 1 0,F.sp.getD 2 0,F.sp.getD 3 0,F.sp.getD 4 0]=F.sp:=by
 match F.sp,h with
 | [a,b,c,d,e],_=>rfl
theorem RA (a:Option Addr) (c:Nat) (l:List Nat) (x:Nat) (w:World) (E:aG w.heap a (l.map aX)) (av:l.length≤1048576):
 bf ao 207 (ba [.slice a l.length c,aX x]) w (fun v w'=>(∃ k:Int,v= .int .i64 k∧(0≤k↔x∈l)∧ -1≤k∧k≤1048576)∧Wk w w'):=by
 refine enter func207 aa ntmps207 aa<|ak fun O=>ay<|O<|az fun V=>ak fun Y=>au (.slice a l.length c)<|p (bP n4 aa aa)<|p mv<|nl<|Y<|aB<|lp (fun C q M=> ∃ (i:Nat),(i≤l.length)∧(∀ j,j < i→l.getD j 0≠x)∧(M=w)∧(q 0= .slice a l.length c)∧(q 1=aX x)∧(q 7=aj (l.length))∧(q 8=aj i)∧(l.length - i=C)) _ ⟨0,ab,(fun j I=>by omega),aa,aa,aa,aa,aa,aa⟩ ?_
 rintro C q M ⟨i,hi,J,ai,am,an,ap,aq,rfl⟩
 refine fx 0 am<|fx 1 an<|fx 7 ap<|fx 8 aq ?_
 subst ai
 refine ak fun Z=>p (lt aa aa)<|nl<|Z<|az fun ac=>cd aa (fun al=> ?_) fun al=> ?_
 refine aR<|ac<|az fun A=>aB<|ak fun ae=>au (aj i)<|p (cj (aj i) aa)<|nl<|ae<|ak fun ag=>au (aX x)<|au (.slice a l.length c)<|au (aj i)<|p (bd bJ aa aa ab<|aG.ok (E)<|db ab)<|p (ld bZ aa<|aG.jk E (show (l.map aX)[i]? =some (aX<|l.getD i 0) by rw [fH,cR,bW (by omega :i < l.length)]; rfl)) ?_
 refine p (cw aa aa)<|nl<|ag<|cd aa (fun G=> ?_) fun G=> ?_
 exact ak fun ah=>au (aj i)<|p (cj (aj i) aa)<|nl<|ah<|rt<|br<|tr<|tr<|br<|tr<|bc aa<|⟨⟨(i:Nat),aa,⟨fun _=>by obtain rfl :x=l.getD i 0:=ab; exact eZ ab,fun _=>by omega⟩,ab,ab⟩,Md.refl _ _⟩
 exact aR<|bn<|A<|rg aa<|p (ad aa aa<|cC ab)<|p mv<|nl<|tn<|⟨_,ab,i+1,ab,(fun j I=>by rcases jh j i with h | h <;> first | exact J j h | (rw [show j=i by omega]; exact fun h2=>G<|by rw [h2])),aa,aa,aa,aa,aa,aa⟩
 exact ext<|bh<|bh<|be<|V<|ak fun A=>p aE<|nl<|A<|rt<|bc aa<|⟨⟨-1,aa,⟨fun h=>absurd h ab,fun h=>by obtain ⟨j,I,e⟩:=oN 0 h; exact absurd e<|J j ab⟩,ab,ab⟩,Md.refl _ _⟩
theorem Oa (a:Option Addr) (c:Nat) (l:List Nat) (x:Nat) (w:World) (C:aG w.heap a (l.map aX)) (I:l.length≤1048576):
 bf ao 141 (ba [.slice a l.length c,aX x]) w (fun v w'=>v= .bool (decide (x∈l))∧Wk w w'):=by
 refine enter func141 aa ntmps141 aa<|ak fun q=>ay<|q<|ak fun A=>au (.slice a l.length c)<|au (aX x)<|e<|cl L0 (RA a c l x w C I) aa fun O V E=> ?_
 obtain ⟨⟨J,rfl,G,M⟩,hE7⟩:=E
 exact p (ge aa aa)<|ay<|A<|rt<|bc aa<|⟨by show bU (decide (J≥0))=_; exact congrArg bU (decide_eq_decide.2 G),hE7⟩
theorem rS (ln er:Int) (w:World):
 bf ao 77 (ba [.int .i64 ln,.int .i64 er]) w (fun v w'=>v= .agg [.int .i64 2,.int .i64 ln,.int .i64 er].toArray∧Wk w w'):=by
 exact enter func77 aa ntmps77 aa<|ak fun a=>e<|al oc fun I V J G C=>nl<|a<|ak fun c=>au (.int .i64 ln)<|au (.int .i64 er)<|p (di (ps:= [(0,.int .i64 2),(1,.int .i64 ln),(2,.int .i64 er)]) (L:= [.int .i64 2,.int .i64 ln,.int .i64 er]) sv aa<|aa)<|e<|cM iV aa aa aa aa (C) (by simp) fun Y E A=>nl<|c<|rt<|tK aa (dV (cs:= [.int .i64 2,.int .i64 ln,.int .i64 er]) aa kq aa fun j M=>A.bp j)<|⟨aa,G.md.trans' E fun q O h=>by omega⟩
theorem O5 (n:Nat) (r:List Tx) (B:Nat) (a:Option Addr) (c:Nat) (w:World) (V:Tg w B 9 r.length (.slice a r.length c) (r.map str)) (Z:∀ x∈r,x.length≤70000) (ag:r.length≤70000):
 bf ao 78 (ba [.agg [aj n,.slice a r.length c].toArray]) w (fun v w'=>v= .tuple #[aj ((la r).1),.int .i64 (la r).2]∧Wk w w'):=by
 refine enter func78 aa ntmps78 aa<|ak fun G=>e<|iJ aa fun ad ac ae A C=> ?_
 have E:=V.wk A.md
 refine p aE<|ay<|G<|az fun I=>ak fun J=>p (fa tT aa)<|p (ld qt aa<|(C.aM 1).trans aa)<|p (bP iQ aa aa)<|p (gE aa aa)<|nl<|J<|cd aa (fun Y=> ?_) fun Y=> ?_
 refine ak fun q=>p aE<|ay<|q<|rt<|tr<|f2 aa aa aa ?_
 have h1:r.length≠1:=ab
 exact ⟨by unfold la; rw [if_pos h1]; rfl,A.md⟩
 refine aR<|I<|ak fun q=>p (fa tT aa)<|p (ld qt aa<|(C.aM 1).trans aa)<|p (bd ec aa aa ab<|aG.ok (E.dG.2)<|db ab)<|p (ld cH aa<|dz.get (i:=0) E.dG.2 ab)<|e<|cl vF (xa (r.getD 0 []) 8192 ac (by have :=Z _ (eZ (d:= []) (show 0 < r.length by omega)); omega) ab) aa fun v12 ah O=> ?_
 obtain ⟨rfl,M⟩:=O
 refine p (xt aa aa)<|p (xt aa aa)<|p aE<|ay<|q<|rt<|f2 aa aa aa ?_
 have h1:¬r.length≠1:=ab
 exact ⟨by unfold la; rw [if_neg h1]; rfl,A.md.trans M⟩
theorem OT (B fb mc:Nat) (F:aC) (V:eh) (n:Nat) (r:List Tx) (bA:Nat) (ar:Option Addr) (cr:Nat) (w:World) (a0:c8 w B fb mc F V) (b9:∃ seen,j0 F [] seen) (cy:Tg w bA 9 r.length (.slice ar r.length cr) (r.map str)) (cL:∀ x∈r,x.length≤70000) (dl:r.length≤70000):
 bf ao 79 (ba [aU fb,.agg [aX (F.sp.getD 0 0),aX (F.sp.getD 1 0),aX (F.sp.getD 2 0),aX (F.sp.getD 3 0),aX (F.sp.getD 4 0)].toArray,.agg [aj n,.slice ar r.length cr].toArray]) w (fun v w'=>Kk w w' (fL F r) v∧Wk w w'):=by
 obtain ⟨seen,aF⟩:=b9
 have dk:=aF.len
 have dq:=xQ<|r.getD 0 []
 refine enter func79 aa ntmps79 aa<|ak fun bB=>e<|iJ aa fun aS dE dg bo b6=>e<|iJ aa fun dc dH dh a1 b7=>e<|al oX fun bi bx dj aJ bj=> ?_
 have aH:Wk w bx:=bo.md.trans<|a1.md.trans aJ.md
 have cK:=aJ.md.B<|a1.md.B b6
 have bw:=aJ.md.B b7
 have bs:=cy.wk aH
 have cc:=a0.wk aH
 have dt:=bo.size
 have du:=a1.size
 have dv:=aJ.size
 refine ay<|bB<|az fun bH=>ak fun bO=>p (fa tT aa)<|p (ld qt aa<|(bw.aM 1).trans aa)<|p (bP iQ aa aa)<|p (gE aa aa)<|nl<|bO<|cd aa (fun cz=> ?_) fun cz=> ?_
 exact ak fun aP=>p (di (ps:= []) (L:= [.string ⟨⟨[]⟩⟩,.slice none 0 0]) nr aa<|aa)<|e<|cM jv aa aa aa aa (bj) (by simp) fun dR co b5=>ay<|aP<|rt<|tr<|fg aa (dV (cs:= [str [],.slice none 0 0]) aa kM aa fun j C=>b5.bp j) eE<|⟨.inr ⟨111,Ps ab,aw,aa⟩,aH.trans' co fun q c h=>by omega⟩
 have J:r.length=1:=ab
 have dn:(r.getD 0 []).length≤70000:=cL _<|eZ ab
 refine aR<|bH<|ak fun aP=>p (fa tT aa)<|p (ld qt aa<|(bw.aM 1).trans aa)<|p (bd ec aa aa ab<|aG.ok (bs.dG.2)<|db ab)<|p (ld cH aa<|dz.get (i:=0) bs.dG.2 ab)<|e<|cl yS (BQ (r.getD 0 []) bx ab) aa fun v28 c7 cq=> ?_
 obtain ⟨rfl,an⟩:=cq
 have ac:=aH.trans an
 have ae:=an.B bj
 have ds:=an.size
 refine p mv<|p (xt aa aa)<|p (xt aa aa)<|p (xt aa aa)<|p (xt aa aa)<|p aE<|p aE<|p aE<|ay<|aP<|az fun bQ=>ak fun bS=>p mv<|p (gE aa aa)<|nl<|bS<|cd aa (fun cA=> ?_) fun cA=> ?_
 exact ak fun aQ=>p (di (ps:= []) (L:= [.string ⟨⟨[]⟩⟩,.slice none 0 0]) nr aa<|aa)<|p mv<|e<|cM jv aa aa aa aa (ae) (by simp) fun dT cp b8=>ay<|aQ<|rt<|tr<|fg aa (dV (cs:= [str [],.slice none 0 0]) aa kM aa fun j C=>b8.bp j) eE<|⟨.inr ⟨_,zz J ab,ab,aa⟩,ac.trans' cp fun q c h=>by omega⟩
 have Z:(bF<|r.getD 0 []).2.2.2=0:=ab
 refine aR<|bQ<|az fun aQ=>ak fun bT=>p mv<|p (dB u9 aa aa)<|p mv<|nl<|bT<|aB<|lp (fun ai E aA=> ∃ (i:Nat),(i≤(bF<|r.getD 0 []).1.length)∧(∀ j,j < i→iM ((bF<|r.getD 0 []).1.getD j 0)=true)∧(Wk c7 aA)∧(E 0=aU fb)∧(E 4=aU aS)∧(E 6=aU bi)∧(E 8=str (bF<|r.getD 0 []).1)∧(E 9=str (bF<|r.getD 0 []).2.1)∧(E 10= .bool (bF<|r.getD 0 []).2.2.1)∧(E 38=aj ((bF<|r.getD 0 []).1.length))∧(E 39=aj i)∧((bF<|r.getD 0 []).1.length - i=ai)) _ ⟨0,ab,(fun j C=>by omega),(Md.refl _ _),aa,aa,aa,aa,aa,aa,aa,aa,aa⟩ ?_
 rintro ai E aA ⟨i,hi,bu,A,cN,cS,cU,cW,cX,cO,cP,cQ,rfl⟩
 refine fx 0 cN<|fx 4 cS<|fx 6 cU<|fx 8 cW<|fx 9 cX<|fx 10 cO<|fx 38 cP<|fx 39 cQ<|ak fun bU=>p (lt aa aa)<|nl<|bU<|az fun bC=>cd aa (fun cB=> ?_) fun cB=> ?_
 refine aR<|bC<|az fun aK=>aB<|ak fun aL=>au (aj i)<|p (cj (aj i) aa)<|nl<|aL<|ak fun ag=>au (str (bF<|r.getD 0 []).1)<|au (aj i)<|au (aj i)<|p (ad aa aa<|cC ab)<|p (uv u9 aa aa aa ab)<|e<|cl De (It (((bF<|r.getD 0 []).1.take<|i+1).drop i) aA<|by rw [G4 ab]; simp) aa fun dy dF ct=> ?_
 obtain ⟨rfl,ca⟩:=ct
 have bv:=G4 (s:=(bF<|r.getD 0 []).1) (i:=i) ab
 have aV:=A.trans ca
 refine p (no aa)<|nl<|ag<|cb aa (fun a4=> ?_) fun a4=> ?_
 have a9:iM ((bF<|r.getD 0 []).1.getD i 0)=false :=by rw [← Is,← bv]; simpa using a4
 exact ak fun ah=>p (di (ps:= []) (L:= [.string ⟨⟨[]⟩⟩,.slice none 0 0]) nr aa<|aa)<|e<|cM jv aa aa aa aa (Wk.B aV ae) (by simp) fun dK ce bV=>ay<|ah<|rt<|br<|tr<|tr<|br<|tr<|fg aa (dV (cs:= [str [],.slice none 0 0]) aa kM aa fun j C=>bV.bp j) eE<|⟨.inr ⟨21,ED J Z (.inl<|vC ab a9),aw,aa⟩,(ac.trans aV).trans' ce fun q c h=>by omega⟩
 have a9:iM ((bF<|r.getD 0 []).1.getD i 0)=true :=by rw [← Is,← bv]; simpa using a4
 exact aR<|bn<|aK<|rg aa<|p (ad aa aa<|cC ab)<|p mv<|nl<|tn<|⟨_,ab,i+1,ab,(fun j C=>by rcases jh j i with h | h <;> first | exact bu j h | (rw [show j=i by omega]; exact a9)),aV,aa,aa,aa,aa,aa,aa,aa,aa,aa⟩
 refine ext<|bh<|bh<|be<|aQ<|az fun aK=>aB<|az fun aL=>rg aa<|au (str (bF<|r.getD 0 []).1)<|p (jP aa aa)<|ay<|aL<|cd aa (fun Y=> ?_) fun Y=> ?_
 exact ak fun ag=>p (di (ps:= []) (L:= [.string ⟨⟨[]⟩⟩,.slice none 0 0]) nr aa<|aa)<|e<|cM jv aa aa aa aa (Wk.B A ae) (by simp) fun dL cg bX=>ay<|ag<|rt<|br<|tr<|fg aa (dV (cs:= [str [],.slice none 0 0]) aa kM aa fun j C=>bX.bp j) eE<|⟨.inr ⟨21,ED J Z (.inr Y),aw,aa⟩,(ac.trans A).trans' cg fun q c h=>by omega⟩
 have ap:=vD (w:=(bF<|r.getD 0 []).1) fun j C=>bu j ab
 refine ak fun ag=>au (str (bF<|r.getD 0 []).1)<|p (dB u9 aa aa)<|p (gt aa aa)<|ay<|ag<|cd aa (fun cD=> ?_) fun cD=> ?_
 exact ak fun ah=>p (di (ps:= []) (L:= [.string ⟨⟨[]⟩⟩,.slice none 0 0]) nr aa<|aa)<|e<|cM jv aa aa aa aa (Wk.B A ae) (by simp) fun dM ch bY=>ay<|ah<|rt<|br<|tr<|fg aa (dV (cs:= [str [],.slice none 0 0]) aa kM aa fun j C=>bY.bp j) eE<|⟨.inr ⟨22,Pt J Z ap Y ab,aw,aa⟩,(ac.trans A).trans' ch fun q c h=>by omega⟩
 refine ak fun ah=>au (.bool (bF<|r.getD 0 []).2.2.1)<|p (no aa)<|ay<|ah<|cb aa (fun aq=> ?_) fun aq=> ?_
 exact ak fun aN=>au (str (bF<|r.getD 0 []).1)<|p (di (ps:= [(0,str (bF<|r.getD 0 []).1)]) (L:= [str (bF<|r.getD 0 []).1,.slice none 0 0]) nr aa<|aa)<|e<|cM jv aa aa aa aa (Wk.B A ae) (by simp) fun dN ci b1=>ay<|aN<|rt<|br<|tr<|fg aa (dV (cs:= [str (bF<|r.getD 0 []).1,.slice none 0 0]) aa kM aa fun j C=>b1.bp j) eE<|⟨.inl ⟨_,.slice none 0 0,Pu J Z ap Y ab (by simpa using aq),aa,dS _ _ _ _⟩,(ac.trans A).trans' ci fun q c h=>by omega⟩
 refine aR<|bn<|aK<|ak fun aN=>au (aU fb)<|au (str (bF<|r.getD 0 []).2.1)<|e<|cl Df (ES B fb mc F V (bF<|r.getD 0 []).2.1 aA (cc.wk<|an.trans A) aF.kd aF.al ab ab) aa fun c6 bb cu=> ?_
 obtain ⟨cG,aW⟩:=cu
 have aI:=ac.trans<|A.trans aW
 have a3:=Wk.B (A.trans aW) ae
 obtain ⟨c9,dd,rfl,bt⟩:∃ a,∃ e:Nat,c6= .tuple #[a,aj e]∧((e=0∧∃ l,gd F.kind F.aliases (bF<|r.getD 0 []).2.1= .ok l∧bq bb aA.heap.size 95 1 a l.length (l.map aX))∨(e≠0∧gd F.kind F.aliases (bF<|r.getD 0 []).2.1= .error e)):=by
  rcases cG with ⟨a,l,h1,h2,h3⟩ | ⟨a,e,h1,h2,h3⟩
  exact ⟨a,0,h1,.inl ⟨aa,l,h2,h3⟩⟩
  exact ⟨a,e,h1,.inr ⟨h2,h3⟩⟩
 refine p mv<|p (xt aa aa)<|p (xt aa aa)<|p aE<|ay<|aN<|az fun bD=>ak fun bE=>p mv<|p (gE aa aa)<|nl<|bE<|cd aa (fun cE=> ?_) fun cE=> ?_
 obtain ⟨cJ,av⟩:=bt.resolve_left fun h=>by omega
 exact ak fun aO=>p (di (ps:= []) (L:= [.string ⟨⟨[]⟩⟩,.slice none 0 0]) nr aa<|aa)<|p mv<|e<|cM jv aa aa aa aa (a3) (by simp) fun dO ck b2=>ay<|aO<|rt<|tr<|fg aa (dV (cs:= [str [],.slice none 0 0]) aa kM aa fun j C=>b2.bp j) eE<|⟨.inr ⟨_,Pv J Z ap Y ab (by simpa using aq) av,cJ,aa⟩,aI.trans' ck fun q c h=>by omega⟩
 obtain ⟨_,set,av,ax⟩:=bt.resolve_right fun h=>by omega
 obtain ⟨M,O,rfl⟩:=cT ax
 have dp:=zP (fun l cI=>(aF.al l cI).1) av
 refine aR<|bD<|az fun aO=>ak fun bG=>p mv<|p (bP Ib aa aa)<|p mv<|nl<|bG<|aB<|lp (fun ai G bc=> ∃ (j:Nat),(j≤set.length)∧(∀ q,q < j→eu F (set.getD q 0)=true)∧(Wk bb bc)∧(G 0=aU fb)∧(G 4=aU aS)∧(G 6=aU bi)∧(G 8=str (bF<|r.getD 0 []).1)∧(G 13= .slice M set.length O)∧(G 75= .slice M set.length O)∧(G 76=aj (set.length))∧(G 77=aj j)∧(set.length - j=ai)) _ ⟨0,ab,(fun q c=>by omega),(Md.refl _ _),aa,aa,aa,aa,aa,aa,aa,aa,aa⟩ ?_
 rintro ai G bc ⟨j,C,a2,I,cY,c0,c1,c5,cZ,c2,c3,c4,rfl⟩
 refine fx 0 cY<|fx 4 c0<|fx 6 c1<|fx 8 c5<|fx 13 cZ<|fx 75 c2<|fx 76 c3<|fx 77 c4<|ak fun bJ=>p (lt aa aa)<|nl<|bJ<|az fun bK=>cd aa (fun cF=> ?_) fun cF=> ?_
 refine aR<|bK<|az fun aD=>aB<|ak fun bL=>p (bd EI aa aa ab<|aG.ok ((a6<|a8 ax I).2)<|db ab)<|p (ld bZ aa<|aG.jk (a6<|a8 ax I).2 (show (set.map aX)[j]? =some (aX<|set.getD j 0) by rw [fH,cR,bW (by omega :j < set.length)]; rfl)) ?_
 refine ay<|bL<|ak fun bM=>au (aU fb)<|p mv<|e<|cl yR (zH B fb mc F V (set.getD j 0) bc (a0.wk<|aI.trans I) ab) aa fun dA dI cv=> ?_
 obtain ⟨rfl,bk⟩:=cv
 have dw:=bk.size
 have dx:=I.size
 refine p mv<|p (xt aa aa)<|p (xt aa aa)<|e<|al sJ fun da dD df bm b0=>e<|cM qA aa aa aa aa (b0) (by simp) fun bz cm de=> ?_
 have dr:=bm.size
 have am:Wk bb bz:=(I.trans<|bk.trans bm.md).trans' cm fun q c h=>by omega
 refine ay<|bM<|ak fun bg=>p mv<|p (no aa)<|p mv<|gb (t:=89) aa (fun a7=> ?_) fun a7=> ?_
 refine aY aa (La tp aa)<|aY aa mv<|eg aa aa aa<|cl LJ (Oa (some ⟨aS,0,none⟩) 5 [F.sp.getD 0 0,F.sp.getD 1 0,F.sp.getD 2 0,F.sp.getD 3 0,F.sp.getD 4 0] (set.getD j 0) bz (aG.fV<|Wk.B ((an.trans<|A.trans aW).trans am) cK)<|by simp) aa fun dC dJ cw=> ?_
 obtain ⟨rfl,aZ⟩:=cw
 rw [Vs a0.jU] at*
 refine aY aa (no aa)<|p (bR aa)<|nl<|bg<|cb aa (fun a5=> ?_) fun a5=> ?_
 exact ak fun bN=>p (di (ps:= []) (L:= [.string ⟨⟨[]⟩⟩,.slice none 0 0]) nr aa<|aa)<|e<|cM jv aa aa aa aa (Wk.B (am.trans aZ) a3) (by simp) fun dP cn b3=>ay<|bN<|rt<|br<|tr<|tr<|br<|tr<|fg aa (dV (cs:= [str [],.slice none 0 0]) aa kM aa fun j C=>b3.bp j) eE<|⟨.inr ⟨120,Px J Z ap Y ab (by simpa using aq) av (i:=j) ab (OM (by simpa using a7)<|by simpa using a5),aw,aa⟩,(aI.trans<|am.trans aZ).trans' cn fun q c h=>by omega⟩
 exact aR<|bn<|aD<|rg aa<|p (ad aa aa<|cC ab)<|p mv<|nl<|tn<|⟨_,ab,j+1,ab,(fun q c=>by rcases jh q j with h | h <;> first | exact a2 q h | (rw [show q=j by omega]; exact Ev<|.inr<|by simpa using a5)),(am.trans aZ),aa,aa,aa,aa,aa,aa,aa,aa,aa⟩
 exact aT aa<|aT aa<|aT aa<|aT aa<|p (bI aa)<|nl<|bg<|cf aa<|aR<|bn<|aD<|rg aa<|p (ad aa aa<|cC ab)<|p mv<|nl<|tn<|⟨_,ab,j+1,ab,(fun q c=>by rcases jh q j with h | h <;> first | exact a2 q h | (rw [show q=j by omega]; exact Ev<|.inl<|by simpa using a7)),am,aa,aa,aa,aa,aa,aa,aa,aa,aa⟩
 exact ext<|bh<|bh<|be<|aO<|ak fun aD=>au (str (bF<|r.getD 0 []).1)<|au (.slice M set.length O)<|p (di (ps:= [(0,str (bF<|r.getD 0 []).1),(1,.slice M set.length O)]) (L:= [str (bF<|r.getD 0 []).1,.slice M set.length O]) nr aa<|aa)<|e<|cM jv aa aa aa aa (Wk.B I a3) (by simp) fun dQ bl b4=>ay<|aD<|rt<|fg aa (dV (cs:= [str (bF<|r.getD 0 []).1,.slice M set.length O]) aa kM aa fun j C=>b4.bp j) eE<|⟨.inl ⟨((bF<|r.getD 0 []).1,set),.slice M set.length O,EE J Z ap Y ab (by simpa using aq) av (fun j C=>a2 j ab),aa,e5 (cx (a8 ax I) bl fun q c h=>by have :=(cV ax c).1; have :=A.size; omega)<|by have :=A.size; omega⟩,(aI.trans I).trans' bl fun q c h=>by omega⟩
end Go.Hb
end
