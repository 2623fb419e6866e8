/-
  Walks and plain laws that the law rests on, laid together. No conditions but those that each theorem names.
-/
import Derived.Test.YtchkamdekbbgeaaGreatDoorMnAnalyseStems4
set_option linter.unusedVariables false
set_option maxRecDepth 20000
set_option maxHeartbeats 1000000
open Array renaming getElem?_eq_some_iff→dT
open Bool renaming or_eq_false_iff→oY
open Classical renaming not_not→jT
open Except.ok renaming injEq→ud
open Go.Proofs.Tryz renaming prog→aE
open Go.Value renaming agg→ca,bool→cy,int→gY,oneCell'→gI,tuple→ij
open Go.World renaming ownsRow→bB,ownsRow_nil→dC
open List renaming all_eq_true→mK,append_assoc→e6,append_nil→eJ,count_eq_zero→s8,count_le_length→wu,drop_eq_nil_of_le→iS,eq_nil_of_length_eq_zero→fY,ext_getElem?→qI,find?_cons→QG,find?_eq_none→Hm,findIdx?_eq_none_iff→QH,getD_eq_getElem?_getD→da,getElem?_append_left→nq,getElem?_append_right→oh,getElem?_cons_zero→wv,getElem?_eq_getElem→cz,getElem?_eq_some_iff→fS,getElem?_map→gi,getElem?_of_mem→ur,getElem?_set→lW,getElem?_zip_eq_some→j9,length→jV,length_append→bP,length_cons→db,length_map→fH,length_nil→gC,length_pos_iff→mr,length_set→yQ,length_singleton→fE,length_take→dM,length_zip→B9,map_append→fZ,mem_append→gq,mem_cons→eL,mem_of_getElem?→gL,not_mem_nil→wH,take_of_length_le→eK,toArray→bl
open Nat renaming le_refl→cU,le_trans→fu,lt_or_ge→fT,zero_add→iV
open Option renaming getD_some→Cj,isSome_iff_exists→ot
open Prod renaming snd→o8
open Go.Proofs.Tryz
open Go.Hb.dX Go.Proofs Go.Hb.eX Go.Hb.fI Go.Hb.mL Go.Hb.gr Go.Hb.kL

section
namespace Go.Hb.pc
open Go.Hb.pf
structure qe (w:World) (B fb:Nat) (mc:Nat) (F:aX) (V:fN):Prop where
 cells:w.heap[fb]? =some (.cells (qm F V mc).toArray 164 (0,0))
 o9:bB w B 189 2 V.v9 F.dF.length (lQ F.dF)
 fD:bB w B 51 1 V.v10 F.aliases.length V.sa
 al:eU w B 95 V.sa F.aliases
 eS:bB w B 192 5 V.v11 F.bG.length (oF F.bG)
 dR:bB w B 134 7 V.v12 F.rules.length (iQ<|F.rules.zip V.rn)
 nx:eU w B 95 V.rn (F.rules.map (·.next))
 lo:B≤fb∧B≤mc
 gG:F.sp.length=5
theorem qe.md {G:Nat→Prop} {w w':World} {B fb mc:Nat} {F:aX} {V:fN} (h:qe w B fb mc F V) (hm:Md G w w') {L:List Nat} (A:TF w L G) (C:(L.contains 166 || L.contains 191 || L.contains 53 || L.contains 97 || L.contains 194 || L.contains 136)=false):qe w' B fb mc F V:=by
 simp only [oY] at C;obtain ⟨⟨⟨⟨⟨h1,h2⟩,h3⟩,h4⟩,h5⟩,h6⟩:=C;have E:∀ k,G k→∀ cur z,w.heap[k]?≠some (.cells cur 95 z):=fun k hk cur z I=>A.no (dS I) h4 hk;exact ⟨hm.jd A h.cells h1,c7 h.o9 hm A h2,c7 h.fD hm A h3,h.al.md hm E,c7 h.eS hm A h5,c7 h.dR hm A h6,h.nx.md hm E,h.lo,h.gG⟩
theorem qe.wk {w w':World} {B fb mc:Nat} {F:aX} {V:fN} (h:qe w B fb mc F V) (hm:Wk w w'):qe w' B fb mc F V:=h.md (L:= []) hm (fun _ hk=>hk.elim) rfl
theorem Xi {w:World} {B fb mc:Nat} {F:aX} {V:fN} (h:eu w B fb mc F V):qe w B fb mc F V:=⟨h.cells,h.o9,h.fD,h.al,h.eS,h.dR,h.nx,h.lo,h.gG⟩
theorem qe.Cy {w G O:World} {B fb mc:Nat} {F:aX} {V:fN} {v:Value} {x:dD} {f:Value→Option Value} (h:qe w B fb mc F V) (E:dq w.heap mc (lf .u16) f) (ac:∀ y:Nat,f (bA y)=((F.bG++ [x]).findIdx? fun c=>decide (c.flag=y)).map fun i:Nat=>gY .i64 i) (hm:Md (fun k=>V.v11.ownBlock=some k) w G) (aa:bB G B 192 5 v (F.bG++ [x]).length (oF<|F.bG++ [x])) (A:Md (fun k=>k=fb) G O) (ab:O.heap[fb]? =some (.cells (qm {F with bG:=F.bG++ [x]} {V with v11:=v} mc).toArray 164 (0,0))):eu O B fb mc {F with bG:=F.bG++ [x]} {V with v11:=v} :=by
 have C:TF w [194] (fun k=>V.v11.ownBlock=some k):=TF.own h.eS aM;have J:=hm.jd C h.cells aM;have I:TF G [166] (fun k=>k=fb):=TF.eq (dS J) aM;have Y:∀ k,V.v11.ownBlock=some k→∀ cur z,w.heap[k]?≠some (.cells cur 95 z):=ji h.eS aM;have Z:∀ k,k=fb→∀ cur z,G.heap[k]?≠some (.cells cur 95 z):=gk J aM;have ae:=e5<|E.md hm<|C.no (e5 E) aM;exact ⟨ab,c7 (c7 h.o9 hm C aM) A I aM,c7 (c7 h.fD hm C aM) A I aM,(h.al.md hm Y).md A Z,dz aa A (fun k hk E=>eh aa J aM<|E ▸ hk),c7 (c7 h.dR hm C aM) A I aM,(h.nx.md hm Y).md A Z,⟨f,(E.md hm<|C.no (e5 E) aM).md A (I.no ae aM),ac⟩,h.lo,h.gG⟩
theorem dP.aaM {w G J:World} {B:Nat} {H:dI} {F F':aX} {R:iX} {rows:List Rw} {ln:Nat} {seen:List Tx} {v:Value} {q:dd} (h:dP w B H F R rows ln seen) (hm:Md (fun k=>R.vn.ownBlock=some k) w G) (aa:bB G B 3 1 v (F.rules++ [q]).length ((F.rules++ [q]).map fun r=>gY .i64 (r.line:Nat))) (A:Md (fun k=>k=H.rb) G J) (ab:J.heap[H.rb]? =some (.cells (yb H {R with vn:=v} ln).toArray 167 (0,0))) (ag:F'.rules=F.rules++ [q]) (hd:∀ x,e8 F' x=e8 F x):dP J B H F' {R with vn:=v} rows ln seen:=by
 have I:TF w [5] (fun k=>R.vn.ownBlock=some k):=TF.own h.on aM;have C:=hm.jd I h.cells aM;have O:TF G [169] (fun k=>k=H.rb):=TF.eq (dS C) aM;obtain ⟨f,E,ac⟩:=h.sm;obtain ⟨g,Y,ae⟩:=h.tm;have V:=E.md hm<|I.no (e5 E) aM;have Z:=Y.md hm<|I.no (e5 Y) aM;exact ⟨ab,(h.rws.md hm<|ji h.on aM).md A (gk C aM),(h.rt.md hm<|ji h.on aM).md A (gk C aM),⟨f,V.md A (O.no (e5 V) aM),ac⟩,⟨g,Z.md A (O.no (e5 Z) aM),fun x ah=>by rw [hd]; exact ae x ah⟩,by rw [ag]; exact dz aa A (fun k hk E=>eh aa C aM<|E ▸ hk),h.lo,h.ne⟩
theorem DP {cs:List dD} {x:Nat} (h:(eB cs x).isSome=false):cs.findIdx? (fun c=>decide (c.flag=x))=none:=by
 rw [QH];unfold eB at h;rw [Option.isSome_eq_false_iff,Option.isNone_iff_eq_none,Hm] at h;intro c A;simpa using h c A
theorem Wh {F:aX} {c:dD} (y:Nat):e8 {F with bG:=F.bG++ [c]} y=(decide (y=c.flag) || e8 F y):=by
 have h1:(eB (F.bG++ [c]) y).isSome=((eB F.bG y).isSome || decide (y=c.flag)):=by
  unfold eB;rw [List.find?_append,Option.isSome_or];congr 1;by_cases h:c.flag=y
  · simp [h]
  · simp [h,Ne.symm h]
 unfold e8;show (decide (y∈F.sp) || (eB (F.bG++ [c]) y).isSome)=_;rw [h1];cases decide (y∈F.sp) <;> cases (eB F.bG y).isSome <;> cases decide (y=c.flag) <;> rfl
theorem Vm {F:aX} {c:dD} {f:Value→Option Value} (hd:e8 F c.flag=false) (A:∀ x:Nat,f (bA x)=(F.bG.findIdx? fun c=>decide (c.flag=x)).map fun i:Nat=>gY .i64 i) (y:Nat):bZ f (bA c.flag) (.int .i64 (F.bG.length:Nat)) (bA y)=((F.bG++ [c]).findIdx? fun c=>decide (c.flag=y)).map fun i:Nat=>gY .i64 i:=by
 unfold e8 at hd;rw [oY] at hd;rw [List.findIdx?_append];by_cases h:y=c.flag
 · subst h;rw [oR,DP hd.2];simp
 · rw [mF (fun h2=>h<|Pj h2),A y];cases F.bG.findIdx? fun c=>decide (c.flag=y) <;> simp [Ne.symm h]
theorem Dk {eof ln e:Nat} {F:aX} {rows:List Rw} {r:List Tx} (h:iF F (r.getD 1 [])= .error e):iu eof F rows ln r= .error (ln,e):=by unfold iu; rw [h]
theorem Dl {eof ln x:Nat} {F:aX} {rows:List Rw} {r:List Tx} (h:iF F (r.getD 1 [])= .ok x) (h1:r.getD 2 []≠[89]) (h2:r.getD 2 []≠[78]):iu eof F rows ln r= .error (ln,114):=by unfold iu; rw [h]; exact if_pos ⟨h1,h2⟩
theorem Jq {eof ln x e:Nat} {F:aX} {rows:List Rw} {r:List Tx} (h:iF F (r.getD 1 [])= .ok x) (h1:r.getD 2 []= [89]∨r.getD 2 []= [78]) (h2:fF (r.getD 3 []) 1024= .error e):iu eof F rows ln r= .error (ln,e):=by
 unfold iu; rw [h]; simp only; rw [if_neg (fun h3=>h1.elim h3.1 h3.2),h2]
theorem Jr {eof ln x n:Nat} {F:aX} {rows:List Rw} {r:List Tx} (h:iF F (r.getD 1 [])= .ok x) (h1:r.getD 2 []= [89]∨r.getD 2 []= [78]) (h2:fF (r.getD 3 []) 1024= .ok n) (h3:1024 < F.rules.length+n):iu eof F rows ln r= .error (ln,117):=by
 unfold iu; rw [h]; simp only; rw [if_neg (fun h3=>h1.elim h3.1 h3.2),h2]; simp only; rw [if_pos h3]
theorem Dm {eof ln x n:Nat} {F:aX} {rows:List Rw} {r:List Tx} {e:Nat×Nat} (h:iF F (r.getD 1 [])= .ok x) (h1:r.getD 2 []= [89]∨r.getD 2 []= [78]) (h2:fF (r.getD 3 []) 1024= .ok n) (h3:¬1024 < F.rules.length+n) (h4:group [r.getD 0 [],r.getD 1 []] (gy F.kind F.aliases (⟨x,(if r.getD 0 []=dG then 2 else 1:Nat),(decide (r.getD 2 []= [89])),F.rules.length,n⟩:dD)) eof n rows= .error e):iu eof F rows ln r= .error e:=by
 unfold iu; rw [h]; simp only; rw [if_neg (fun h3=>h1.elim h3.1 h3.2),h2]; simp only; rw [if_neg h3,h4]
theorem UM {eof ln x n:Nat} {F:aX} {rows:List Rw} {r:List Tx} {q:List dd×List Rw} (h:iF F (r.getD 1 [])= .ok x) (h1:r.getD 2 []= [89]∨r.getD 2 []= [78]) (h2:fF (r.getD 3 []) 1024= .ok n) (h3:¬1024 < F.rules.length+n) (h4:group [r.getD 0 [],r.getD 1 []] (gy F.kind F.aliases (⟨x,(if r.getD 0 []=dG then 2 else 1:Nat),(decide (r.getD 2 []= [89])),F.rules.length,n⟩:dD)) eof n rows= .ok q):iu eof F rows ln r= .ok ({F with bG:=F.bG++ [(⟨x,(if r.getD 0 []=dG then 2 else 1:Nat),(decide (r.getD 2 []= [89])),F.rules.length,n⟩:dD)],rules:=F.rules++q.1},q.2):=by
 unfold iu; rw [h]; simp only; rw [if_neg (fun h3=>h1.elim h3.1 h3.2),h2]; simp only; rw [if_neg h3,h4]
theorem Js (B:Nat) (H:dI) (F:aX) (rows:List Rw) (ln:Nat) (seen:List Tx) (r:List Tx) (cx:Nat) (ar:Option Addr) (cr:Nat) (w:World) (A:St w B H F rows ln seen) (cU:Tg w cx 9 r.length (.slice ar r.length cr) (r.map str)) (f5:r.length=4) (cp:∀ x∈r,x.length≤70000) (fQ:F.dF.length+F.aliases.length+F.bG.length+F.rules.length+rows.length < 70000):
 gv aE 134 (bl [.pointer (some ⟨H.rb,0,none⟩),.slice ar r.length cr]) w (kf B H seen (iu H.eof F rows ln r) w) (ke B H (iu H.eof F rows ln r) w):=by
 obtain ⟨V,R,O,an,aC⟩:=A;have ac:=cU.du;have f6:(r.getD 1 []).length≤70000:=cp _<|ek aj;have f7:(r.getD 2 []).length≤70000:=cp _<|ek aj;have f8:(r.getD 3 []).length≤70000:=cp _<|ek aj;have f3:=an.lo;have fW:=aC.len;have f9:=(dT.1 an.cells).1;obtain ⟨a12,dx,fh⟩:=cM O.dR;obtain ⟨cy,lG,dc⟩:=cM O.eS;have eU:Hb.a7 w.heap H.fb 12=some (.slice a12 F.rules.length dx):=by rw [← fh]; exact (bo O.cells).trans rfl
 have fX:Hb.a7 w.heap H.fb 11=some (.slice cy F.bG.length lG):=by rw [← dc]; exact (bo O.cells).trans rfl
 have eZ:∀ b,w.heap.size≤b→¬(V.v11.ownBlock=some b):=fun b fP h=>by have :=dK O.eS h; omega
 obtain ⟨tf,fg,c9⟩:=an.tm;refine kR func134 ag ntmps134 ag ?_;refine ez (fun dk cv=> ∃ (x J:Nat),(iF F (r.getD 1 [])= .ok x)∧(x≠0)∧(e8 F x=false)∧(w.heap.size≤J)∧(cv.heap[J]? =some (.cells [bA x,.int .i64 (1:Nat),.bool false,.int .i64 (F.rules.length:Nat),.int .i64 (0:Nat)].toArray 192 (0,0)))∧(Wk w cv)∧(Sl dk [(0,.pointer (some ⟨H.rb,0,none⟩)),(1,.slice ar r.length cr),(4,.pointer (some ⟨J,0,none⟩))])) ?_ ?_;have E:(fun w'=>Wk w w') w.drew:=(Md.refl _ _).drew;refine cj (fun w'=>Wk w w') ag wide E<|hp 0 ag au (fun _ _=>a8 (.pointer<|some ⟨H.rb,0,none⟩) ag) E<|hp 1 ag au (fun _ _=>a8 (.slice ar r.length cr) ag) E<|hp 2 ag au (fun _ _=>bh cE ag ag aj<|aR.ok (ac.2)<|bY aj) E<|hp 3 ag au (fun w' A=>ld bW ag<|Wk.a7 A<|cw.get (i:=1) ac.2 aj) E<|hp 5 ag au (fun _ _=>a8 (.pointer<|some ⟨H.rb,0,none⟩) ag) E<|hp 6 ag au (fun _ _=>nc ag) E<|hp 7 ag au (fun _ _=>fa jg ag) E<|hp 8 ag au (fun w' A=>ld gP ag<|Wk.a7 A<|(bo an.cells).trans ag) E<|hp 9 ag au (fun _ _=>nc ag) E<|hp 10 ag au (fun _ _=>fa iD ag) E<|hp 11 ag au (fun _ _=>fa pM ag) E<|hp 12 ag au (fun w' A=>ld nB ag<|Wk.a7 A<|eU) E<|hp 13 ag au (fun _ _=>bN sR ag ag) E<|YZ (Pn:=fun c w'=> ∃ e,iF F (r.getD 1 [])= .error e∧c=j0 45 ln (e:Nat)∧Wk w.drew w') 4 15 ag ag au ag ag ?_ (fun c w' C aO O=>by obtain ⟨e,he,h,h2⟩:=C; exact ⟨ln,e,Dk he,h,Wk.mw<|Md.trans E h2⟩) ?_;refine et CS (Eh B H F V R rows ln seen (r.getD 1 []) w.drew (O.wk E) (an.wk E) aC.kd aj) ag fun v10 bU bf=> ?_;obtain ⟨x,ae,bv,rfl,aN,bz⟩:=bf;have ao:(fun w'=>Wk w w') bU:=Md.trans E bz;refine ⟨ao,?_⟩;refine hp 14 ag au (fun _ _=>dt (ps:= [(0,bA x),(1,.int .i64 (1:Nat)),(3,.int .i64 (F.rules.length:Nat))]) (L:= [bA x,.int .i64 (1:Nat),.bool false,.int .i64 (F.rules.length:Nat),.int .i64 0]) Gf ag<|ag) ao<|he 15 ag au<|hU vY fun J b0 eO b7 b1=> ?_;have az:(fun w'=>Wk w w') b0:=Md.trans ao b7.md;refine ⟨az,?_⟩;refine he 16 ag au<|gS tB ag ag ag ag b1 aM fun ct b5 b2=> ?_;have bj:(fun w'=>Wk w w') ct:=Md.trans' az b5 fun k hk h=>by have h1:=Md.size ao; have h2:=Md.size E; omega
 refine ⟨bj,?_⟩;exact hn au<|tn<|⟨x,J,ae,bv,aN,(by have h1:=Md.size ao; have h2:=Md.size E; omega),b2,bj,ag⟩
 refine hU vY fun J b0 eO b7 b1=> ?_;have az:(fun w'=>Wk w w') b0:=Md.trans E b7.md;refine ⟨az,?_⟩;refine vt 4 ag au ag (et CS (Eh B H F V R rows ln seen (r.getD 1 []) b0 (O.wk az) (an.wk az) aC.kd aj) ag fun v10 bU bf=> ?_) fun c w' C aO O=>by obtain ⟨e,he,h,h2⟩:=C; exact ⟨ln,e,Dk he,h,Wk.mw<|Md.trans az h2⟩
 obtain ⟨x,ae,bv,rfl,aN,bz⟩:=bf;have ao:(fun w'=>Wk w w') bU:=Md.trans az bz;refine ⟨ao,?_⟩;refine hp 14 ag au (fun _ _=>dt (ps:= [(0,bA x),(1,.int .i64 (1:Nat)),(3,.int .i64 (F.rules.length:Nat))]) (L:= [bA x,.int .i64 (1:Nat),.bool false,.int .i64 (F.rules.length:Nat),.int .i64 0]) Gf ag<|ag) ao<|he 16 ag au<|gS tB ag ag ag ag (Wk.aW bz b1) aM fun ct b5 b2=> ?_;have bj:(fun w'=>Wk w w') ct:=Md.trans' ao b5 fun k hk h=>by have h1:=Md.size ao; have h2:=Md.size E; omega
 refine ⟨bj,?_⟩;exact hn au<|tn<|⟨x,J,ae,bv,aN,(by have h1:=Md.size ao; have h2:=Md.size E; omega),b2,bj,ag⟩
 rintro dk cv ⟨x,J,ae,bv,aN,e4,c7,bx,fc⟩;refine bH fc ?_;refine ez (fun dl aZ=>(aZ.heap[J]? =some (.cells [bA x,.int .i64 ((if r.getD 0 []=dG then 2 else 1:Nat):Nat),.bool false,.int .i64 (F.rules.length:Nat),.int .i64 (0:Nat)].toArray 192 (0,0)))∧(Wk w aZ)∧(Sl dl [(0,.pointer (some ⟨H.rb,0,none⟩)),(1,.slice ar r.length cr),(4,.pointer (some ⟨J,0,none⟩))])) ?_ ?_;refine sq fun ds b4=>rg ag<|p (a8 (.slice ar r.length cr) ag)<|p (bh cE ag ag aj<|aR.ok (aR.wk ac.2 bx)<|bY aj)<|p (ld bW ag<|cw.get (i:=0) (aR.wk ac.2 bx) aj)<|p (ew ag ag)<|nl<|tn<|b4 _ _<|cd ag (fun ch=> ?_) fun ch=> ?_;exact rg ag<|p (fa xJ ag)<|e<|dB hZ ag ag (v:= .int .i64 (2:Nat)) ag c7 (by show _ < 5; decide) fun gm d9 dJ=>nl<|tn<|⟨(by rw [if_pos (show r.getD 0 []=dG from ch)]; exact dJ),(bx.trans' d9 fun k hk h=>by omega),ag⟩
 exact aT<|tn<|⟨(by rw [if_neg (show ¬r.getD 0 []=dG from ch)]; exact c7),bx,ag⟩
 rintro dl aZ ⟨e3,ak,fd⟩;refine bH fd ?_;refine ez (fun dn dj=>(r.getD 2 []= [89]∨r.getD 2 []= [78])∧(dj=aZ)∧(Sl dn [(0,.pointer (some ⟨H.rb,0,none⟩)),(1,.slice ar r.length cr),(4,.pointer (some ⟨J,0,none⟩))])) ?_ ?_;refine rg ag<|p (a8 (.pointer<|some ⟨H.rb,0,none⟩) ag)<|p (a8 (.slice ar r.length cr) ag)<|p (bh cE ag ag aj<|aR.ok (aR.wk ac.2 ak)<|bY aj)<|p (ld bW ag<|cw.get (i:=2) (aR.wk ac.2 ak) aj)<|p (ew ag ag)<|p mv<|gs (t:=31) ag (fun bQ=> ?_) fun bQ=> ?_;refine sk ag ag ag ag<|sk ag ag ag ag<|sk ag ag ag ag<|sk ag ag ag ag<|p (bI ag)<|eP ag (et jo (jv H.rb ln _ 114 aZ (Wk.a7 ak an.dH) aM) ag fun v37 fu b8=> ?_) fun c w' C aO O=>by first | exact absurd C.2.1 aM | exact ⟨ln,114,Dl ae bQ (of_decide_eq_false C.2.1),C.1,by rw [C.2.2]; exact Wk.mw ak⟩
 obtain ⟨rfl,de,rfl⟩:=b8;exact nl<|tn<|⟨(.inl bQ),ag,ag⟩
 refine pg ag ag ag (a8 (.slice ar r.length cr) ag)<|pg ag ag ag (bh cE ag ag aj<|aR.ok (aR.wk ac.2 ak)<|bY aj)<|pg ag ag ag (ld bW ag<|cw.get (i:=2) (aR.wk ac.2 ak) aj)<|pg ag ag ag (ew ag ag)<|p (bD ag)<|eP ag (et jo (jv H.rb ln _ 114 aZ (Wk.a7 ak an.dH) aM) ag fun v37 fu b8=> ?_) fun c w' C aO O=>by first | exact absurd C.2.1 aM | exact ⟨ln,114,Dl ae bQ (of_decide_eq_false C.2.1),C.1,by rw [C.2.2]; exact Wk.mw ak⟩
 obtain ⟨rfl,de,rfl⟩:=b8;exact nl<|tn<|⟨(.inr<|of_decide_eq_true de),ag,ag⟩
 rintro dn dj ⟨aU,fl,fe⟩;refine bH fe ?_;subst fl;refine sq fun ds b4=>rg ag<|p (a8 (.slice ar r.length cr) ag)<|p (bh cE ag ag aj<|aR.ok (aR.wk ac.2 ak)<|bY aj)<|p (ld bW ag<|cw.get (i:=2) (aR.wk ac.2 ak) aj)<|p (ew ag ag)<|p (fa Ly ag)<|e<|dB JS ag ag (v:= .bool<|decide (r.getD 2 []= [89])) ag e3 (by show _ < 5; decide) fun fv ea dL=> ?_;have a9:=ak.trans' ea fun k hk h=>by omega
 refine nl<|tn<|b4 _ _<|sq fun fA d1=>rg ag<|p (a8 (.pointer<|some ⟨H.rb,0,none⟩) ag)<|p (a8 (.slice ar r.length cr) ag)<|p (bh cE ag ag aj<|aR.ok (aR.wk ac.2 a9)<|bY aj)<|p (ld bW ag<|cw.get (i:=3) (aR.wk ac.2 a9) aj)<|eP ag (et zl (AV H.rb ln (r.getD 3 []) 1024 fv (Wk.a7 a9 an.dH) aj aj) ag fun gi gl eA=> ?_) fun c w' C aO O=>by obtain ⟨e,he,h,h2⟩:=C; exact ⟨ln,e,Jq ae aU he,h,Wk.mw<|a9.trans h2⟩
 obtain ⟨n,aS,rfl,cA⟩:=eA;have f4:=Fg aS;refine p (fa Ag ag)<|e<|dB hZ ag ag (v:= .int .i64 (n:Nat)) ag (Wk.aW cA dL) (by show _ < 5; decide) fun dh ed dM=> ?_;have aF:=(a9.trans cA).trans' ed fun k hk h=>by omega
 have bq:dh.heap[J]? =some (.cells [bA x,.int .i64 ((if r.getD 0 []=dG then 2 else 1:Nat):Nat),.bool (decide (r.getD 2 []= [89])),.int .i64 (F.rules.length:Nat),.int .i64 (n:Nat)].toArray 192 (0,0)):=dM;refine nl<|tn<|d1 _ _<|sq fun fB d2=>rg ag<|p (a8 (.pointer<|some ⟨H.rb,0,none⟩) ag)<|p (fa Lz ag)<|p (ld bL ag<|(bo bq).trans ag)<|p (fa Ag ag)<|p (ld bL ag<|(bo bq).trans ag)<|p (bJ ((F.rules.length+n:Nat):Int) ag ag<|bp aj aj)<|p (le ag ag)<|eP ag (et jo (jv H.rb ln _ 117 dh (Wk.a7 aF an.dH) aM) ag fun gj cu eB=> ?_) fun c w' C aO O=>⟨ln,117,Jr ae aU aS (by have :=of_decide_eq_false C.2.1; omega),C.1,by rw [C.2.2]; exact Wk.mw aF⟩
 obtain ⟨rfl,fo,rfl⟩:=eB;have bw:¬1024 < F.rules.length+n:=by have :=of_decide_eq_true fo; omega
 have bE:=an.wk aF;have dU:=O.wk aF;have bR:=fg.wk aF;refine nl<|tn<|d2 _ _<|sq fun fC d3=> ?_;have av:(fun w'=>Wk cu w') cu.drew:=(Md.refl _ _).drew;refine fj (fun w'=>Wk cu w') 8 ag wide av<|lq 0 ag au (fun _ _=>a8 (.pointer<|some ⟨H.rb,0,none⟩) ag) av<|lq 1 ag au (fun _ _=>nc ag) av<|lq 2 ag au (fun _ _=>fa D4 ag) av<|lq 3 ag au (fun w' A=>ld xa ag<|Wk.a7 A<|(bo bE.cells).trans ag) av<|lq 4 ag au (fun _ _=>fa D7 ag) av<|lq 5 ag au (fun w' A=>ld dA ag<|Wk.a7 A<|(bo bq).trans ag) av<|lq 6 ag au (fun w' A=>mX tX oX tG (dq.md (bR) A id) ag ag (⟨_,ag⟩) (show _=gY .i64 0 from (c9 x bv).trans<|by rw [aN]; rfl)) av<|lq 7 ag au (fun _ _=>bJ ((1:Nat):Int) ag ag<|bp aj aj) av<|eb 8 ag au au<|tZ tX tG (bR.wk av) ag ag ag (⟨_,ag⟩) fun a0 ec ep=> ?_;have bc:=jk ec;have bi:dP a0 B H {F with bG:=F.bG++ [(⟨x,(if r.getD 0 []=dG then 2 else 1:Nat),(decide (r.getD 2 []= [89])),F.rules.length,n⟩:dD)]} R rows ln seen:=bE.xZ bc ep rfl (O7 aN c9 fun y _=>Wh y);have ba:=dU.xZ bE bc;have c2:=bc.aW bq fun h=>bR.pT<|h ▸ bq;have eK:=(cU.wk aF).md bc fun k hk cur z cl=>by subst hk; exact bR.pT cl
 have ej:=(Wk.mw aF).trans<|gu.mt bE bc;obtain ⟨cf,ci,eV⟩:=ba.cm;have eT:Hb.a7 a0.heap H.fb 11=some (.slice cy F.bG.length lG):=by rw [← dc]; exact (bo ba.cells).trans rfl
 refine fi au<|tn<|d3 _ _<|sq fun fD d4=> ?_;have G:(fun w'=>Wk a0 w') a0.drew:=(Md.refl _ _).drew;refine fj (fun w'=>Wk a0 w') 18 ag wide G<|lq 0 ag au (fun _ _=>a8 (.pointer<|some ⟨H.rb,0,none⟩) ag) G<|lq 1 ag au (fun _ _=>nc ag) G<|lq 2 ag au (fun _ _=>fa jg ag) G<|lq 3 ag au (fun w' A=>ld gP ag<|Wk.a7 A<|(bo bi.cells).trans ag) G<|lq 4 ag au (fun _ _=>nc ag) G<|lq 5 ag au (fun _ _=>fa Lv ag) G<|lq 6 ag au (fun w' A=>ld xa ag<|Wk.a7 A<|(bo ba.cells).trans ag) G<|lq 7 ag au (fun _ _=>fa D7 ag) G<|lq 8 ag au (fun w' A=>ld dA ag<|Wk.a7 A<|(bo c2).trans ag) G<|lq 9 ag au (fun _ _=>a8 (.pointer<|some ⟨H.rb,0,none⟩) ag) G<|lq 10 ag au (fun _ _=>nc ag) G<|lq 11 ag au (fun _ _=>fa jg ag) G<|lq 12 ag au (fun w' A=>ld gP ag<|Wk.a7 A<|(bo bi.cells).trans ag) G<|lq 13 ag au (fun _ _=>nc ag) G<|lq 14 ag au (fun _ _=>fa iD ag) G ?_;refine lq 15 ag au (fun _ _=>fa vc ag) G<|lq 16 ag au (fun w' A=>ld y7 ag<|Wk.a7 A<|eT) G<|lq 17 ag au (fun _ _=>bN Pm ag ag) G<|eb 18 ag au au<|tZ tX tG (ci.wk G) ag ag ag (⟨_,ag⟩) fun a1 ee er=> ?_;have es:dq a1.heap H.mc (lf .u16) (bZ cf (bA x)<|.int .i64 (F.bG.length:Nat)):=er;have bd:=jk ee;have ca:TF a0 [1] (fun k=>k=H.mc):=TF.eq (e5 ci) aM;have bm:=(Xi ba).md (L:= [1]) bd ca aM;have bK:=bi.md (L:= [1]) bd ca aM bi.ne.2.1 bi.ne.2.2;have cY:=bd.jd ca c2 aM;have eL:=eK.md bd fun k hk cur z cl=>by subst hk; exact ci.pT cl
 have em:=ej.trans<|bd.mono fun k _ hk=>⟨hk ▸ ba.lo.2,.inr<|.inr<|.inl hk⟩
 have c3:=eZ J e4;have bu:¬(V.v11.ownBlock=some H.rb):=eh bm.eS bK.cells aM;have cn:¬(V.v11.ownBlock=some H.fb):=eh bm.eS bm.cells aM;refine fi au<|tn<|d4 _ _<|sq fun fF d5=> ?_;have Z:(fun w'=>Md (fun k=>V.v11.ownBlock=some k) a1 w') a1.drew:=(Md.refl _ _).drew;refine fj (fun w'=>Md (fun k=>V.v11.ownBlock=some k) a1 w') 18 ag wide Z<|dO 0 ag au (fun _=>a8 (.pointer<|some ⟨H.rb,0,none⟩) ag) (fun _=>Z)<|dO 1 ag au (fun _=>nc ag) (fun _=>Z)<|dO 2 ag au (fun _=>fa jg ag) (fun _=>Z)<|lh 3 ag au (fun w' A=>ld gP ag<|Md.a7 A ((bo bK.cells).trans ag) bu) Z<|dO 4 ag au (fun _=>a8 (.pointer<|some ⟨H.rb,0,none⟩) ag) (fun _=>Z)<|dO 5 ag au (fun _=>nc ag) (fun _=>Z)<|dO 6 ag au (fun _=>fa jg ag) (fun _=>Z)<|lh 7 ag au (fun w' A=>ld gP ag<|Md.a7 A ((bo bK.cells).trans ag) bu) Z<|dO 8 ag au (fun _=>nc ag) (fun _=>Z)<|dO 9 ag au (fun _=>fa iD ag) (fun _=>Z)<|dO 10 ag au (fun _=>fa vc ag) (fun _=>Z)<|lh 11 ag au (fun w' A=>ld y7 ag<|Md.a7 A ((bo bm.cells).trans ag) cn) Z<|lh 12 ag au (fun w' A=>dp xc ag (ag) fun j eW=>bX.bF ⟨_,Md.aW A cY c3⟩ j) Z<|ic 13 ag au<|lF Bg ag ag ag fun fO fw fV cJ dN=> ?_;have aP:=jk cJ.md;have aw:=bm.wk aP;have cL:=bK.wk aP;have gc:=(dT.1 cL.cells).1;have cT:(fun w'=>Md (fun k=>V.v11.ownBlock=some k) a1 w') fw:=Z.trans' cJ.md fun _ _ h=>h.elim;refine ⟨cT,?_⟩;refine ic 14 ag au<|ap Bg (aw.eS) ag aj ag (aR.dZ dN) (ag) (ag) aj aj fun cq di c6 aK gf f2=> ?_;have en:=(em.trans<|Wk.mw aP).trans<|Mw.of aK (TF.own aw.eS aM) fun k hk=>(dK aw.eS hk).1;have bf:=dP.own cL aw.eS aK aM;have br:=aK.aW aw.cells<|eh aw.eS aw.cells aM;have cb:=aK.aW (Wk.aW aP cY) c3;have eD:=(eL.wk aP).md aK<|ji aw.eS aM;have e2:bB di B 192 5 cq (F.bG++ [(⟨x,(if r.getD 0 []=dG then 2 else 1:Nat),(decide (r.getD 2 []= [89])),F.rules.length,n⟩:dD)]).length (oF<|F.bG++ [(⟨x,(if r.getD 0 []=dG then 2 else 1:Nat),(decide (r.getD 2 []= [89])),F.rules.length,n⟩:dD)]):=by rw [show oF (F.bG++ [(⟨x,(if r.getD 0 []=dG then 2 else 1:Nat),(decide (r.getD 2 []= [89])),F.rules.length,n⟩:dD)])=oF F.bG++pF (⟨x,(if r.getD 0 []=dG then 2 else 1:Nat),(decide (r.getD 2 []= [89])),F.rules.length,n⟩:dD) from by simp [oF],bP]; exact c6
 have bO:(fun w'=>Md (fun k=>V.v11.ownBlock=some k) a1 w') di:=cT.trans' aK fun _ _ h=>h;refine ⟨bO,?_⟩;refine dO 15 ag au (fun _=>nc ag) (fun _=>bO)<|dO 16 ag au (fun _=>fa iD ag) (fun _=>bO)<|dO 17 ag au (fun _=>fa vc ag) (fun _=>bO)<|eb 18 ag au au<|dB JW ag ag (v:=cq) (fG c6) br (by show _ < 14; omega) fun aY am b3=> ?_;have dQ:=qe.Cy (x:=(⟨x,(if r.getD 0 []=dG then 2 else 1:Nat),(decide (r.getD 2 []= [89])),F.rules.length,n⟩:dD)) aw (es.wk aP) (Vm (c:=(⟨x,(if r.getD 0 []=dG then 2 else 1:Nat),(decide (r.getD 2 []= [89])),F.rules.length,n⟩:dD)) aN eV) aK e2 am b3;have ev:=dP.ql bf br am;have cZ:=am.aW cb fun h=>by rw [h,br] at cb; cases cb
 have eE:=eD.md am<|gk br aM;have ef:=en.trans<|Mw.of am (TF.eq (dS br) aM) fun k hk=>hk ▸ aw.lo.1;refine fi au<|tn<|d5 _ _<|sq fun fI d6=>rg ag<|p (fa Ag ag)<|p (ld bL ag<|(bo cZ).trans ag)<|p mv<|nl<|tn<|d6 _ _<|aW<|lp (fun cz dr ah=> ∃ (i:Nat) (xs:List dd) (rows':List Rw) (bS:Nat) (I:fN) (R':iX),(i≤n)∧(jL [r.getD 0 [],r.getD 1 []] (gy F.kind F.aliases (⟨x,(if r.getD 0 []=dG then 2 else 1:Nat),(decide (r.getD 2 []= [89])),F.rules.length,n⟩:dD)) H.eof (group [r.getD 0 [],r.getD 1 []] (gy F.kind F.aliases (⟨x,(if r.getD 0 []=dG then 2 else 1:Nat),(decide (r.getD 2 []= [89])),F.rules.length,n⟩:dD)) H.eof n rows) xs (n - i) rows')∧(xs.length=i)∧(eu ah B H.fb H.mc {F with bG:=F.bG++ [(⟨x,(if r.getD 0 []=dG then 2 else 1:Nat),(decide (r.getD 2 []= [89])),F.rules.length,n⟩:dD)],rules:=F.rules++xs} I)∧(dP ah B H {F with bG:=F.bG++ [(⟨x,(if r.getD 0 []=dG then 2 else 1:Nat),(decide (r.getD 2 []= [89])),F.rules.length,n⟩:dD)],rules:=F.rules++xs} R' rows' bS seen)∧(lB {F with bG:=F.bG++ [(⟨x,(if r.getD 0 []=dG then 2 else 1:Nat),(decide (r.getD 2 []= [89])),F.rules.length,n⟩:dD)],rules:=F.rules++xs} rows' seen)∧(gu B H w ah)∧(ah.heap[J]? =some (.cells [bA x,.int .i64 ((if r.getD 0 []=dG then 2 else 1:Nat):Nat),.bool (decide (r.getD 2 []= [89])),.int .i64 (F.rules.length:Nat),.int .i64 (n:Nat)].toArray 192 (0,0)))∧(Tg ah cx 9 r.length (.slice ar r.length cr)<|r.map str)∧(Sl dr [(0,.pointer (some ⟨H.rb,0,none⟩)),(1,.slice ar r.length cr),(4,.pointer (some ⟨J,0,none⟩)),(102,.int .i64 (n:Nat)),(103,.int .i64 (i:Nat))])∧(n - i=cz)) _ ⟨0,[],rows,ln,{V with v11:=cq},R,aj,jL.start,ag,(by rw [eJ]; exact dQ),(by rw [eJ]; exact ev),(⟨by simp only [bP,fE,gC]; omega,aC.sl,aC.row,aC.kd,aC.al⟩),ef,cZ,eE,ag,ag⟩ ?_;rintro cz dr ah ⟨i,xs,rows',bS,I,R',hi,aQ,fq,cB,ax,a5,cF,c8,bk,ff,rfl⟩;refine bH ff<|sq fun fJ d7=>rg ag<|p (lt ag ag)<|nl<|tn<|d7 _ _<|sq fun fK d8=>cd ag (fun eR=> ?_) fun eR=> ?_;refine aT<|tn<|d8 _ _<|sq fun fx dX=>aW<|sq fun fy dY=> ?_;have ay:(fun w'=>Md (fun k=>k=H.rb) ah w') ah.drew:=(Md.refl _ _).drew;refine cj (fun w'=>Md (fun k=>k=H.rb) ah w') ag wide ay<|hp 0 ag au (fun _ _=>a8 (.pointer<|some ⟨H.rb,0,none⟩) ag) ay<|hp 1 ag au (fun _ _=>a8 (.slice ar r.length cr) ag) ay<|hp 2 ag au (fun _ _=>bh cE ag ag aj<|aR.ok (bk.du.2)<|bY aj) ay<|hp 3 ag au (fun w' A=>ld bW ag<|cw.get (i:=0) (bk.md A<|gk ax.cells aM).du.2 aj) ay<|hp 4 ag au (fun _ _=>a8 (.slice ar r.length cr) ag) ay<|hp 5 ag au (fun _ _=>bh cE ag ag aj<|aR.ok (bk.du.2)<|bY aj) ay<|hp 6 ag au (fun w' A=>ld bW ag<|cw.get (i:=1) (bk.md A<|gk ax.cells aM).du.2 aj) ay<|he 7 ag au<|tx (L:= [str (r.getD 0 []),str (r.getD 1 [])]) eY ag ag ag ag fun dw cs fS cI dC=> ?_;have ai:Wk ah cs:=jk cI.md;have cG:=cF.trans<|Wk.mw ai;have cN:(fun w'=>Md (fun k=>k=H.rb) ah w') cs:=ay.trans' cI.md fun _ _ h=>h.elim;refine ⟨cN,?_⟩
 refine vt 8 ag au ag (et CT (EE B H {F with bG:=F.bG++ [(⟨x,(if r.getD 0 []=dG then 2 else 1:Nat),(decide (r.getD 2 []= [89])),F.rules.length,n⟩:dD)],rules:=F.rules++xs} R' rows' bS seen [r.getD 0 [],r.getD 1 []] dw 2 _ _ cs (ax.wk ai) (Tg.Fl dC ag) ag aM fun q co=>(a5.row q co).2.1) ag fun gh aA ey=> ?_) (fun c w' C aO O=>by
  obtain ⟨h1,h2⟩:=C;have hm:=cG.trans<|gu.rb (ax.wk ai) h2;rcases h1 with ⟨rfl,h3⟩ | ⟨bT,aV,rest,rfl,h4,h3⟩;exact ⟨_,_,Dm ae aU aS bw (aQ.ends aj),h3,hm⟩;exact ⟨_,_,Dm ae aU aS bw (aQ.other aj h4),h3,hm⟩)
 obtain ⟨bT,aV,rest,rfl,da,⟨aB,bg⟩,hT15,hM15⟩:=ey;obtain ⟨dv,xj,rfl⟩:=hT15.slice;have aG:=(cB.wk ai).rb (ax.wk ai) hM15;have cH:=cG.trans<|gu.rb (ax.wk ai) hM15;have e9:aV≠[]∧aV.length≤70000∧∀ x∈aV,x.length≤70000:=a5.row (bT,aV)<|by simp
 have a4:=lB.q8 a5;have eQ:=a5.len;simp only [db,bP] at eQ;have eF:=(bk.wk ai).md hM15<|gk (ax.wk ai).cells aM;have cc:=hM15.aW (Wk.aW ai c8) fun h=>by have h1:=(ax.wk ai).cells; rw [← h,Wk.aW ai c8] at h1; cases h1
 have cO:(fun w'=>Md (fun k=>k=H.rb) ah w') aA:=cN.trans' hM15 fun _ _ h=>h;refine ⟨cO,?_⟩;refine hp 9 ag au (fun _ _=>aJ) cO<|hn au<|tn<|dY _ _<|sq fun fz d0=> ?_;have bu:¬(I.v12.ownBlock=some H.rb):=eh aG.dR bg.cells aM;have cn:¬(I.v12.ownBlock=some H.fb):=eh aG.dR aG.cells aM;have eX:¬(I.v12.ownBlock=some J):=eh aG.dR cc aM;have Y:(fun w'=>Md (fun k=>I.v12.ownBlock=some k) aA w') aA.drew:=(Md.refl _ _).drew;refine fj (fun w'=>Md (fun k=>I.v12.ownBlock=some k) aA w') 21 ag wide Y<|dO 0 ag au (fun _=>a8 (.pointer<|some ⟨H.rb,0,none⟩) ag) (fun _=>Y)<|dO 1 ag au (fun _=>nc ag) (fun _=>Y)<|dO 2 ag au (fun _=>fa jg ag) (fun _=>Y)<|lh 3 ag au (fun w' A=>ld gP ag<|Md.a7 A ((bo bg.cells).trans ag) bu) Y<|dO 4 ag au (fun _=>a8 (.pointer<|some ⟨H.rb,0,none⟩) ag) (fun _=>Y)<|dO 5 ag au (fun _=>nc ag) (fun _=>Y)<|dO 6 ag au (fun _=>fa jg ag) (fun _=>Y)<|lh 7 ag au (fun w' A=>ld gP ag<|Md.a7 A ((bo bg.cells).trans ag) bu) Y<|dO 8 ag au (fun _=>nc ag) (fun _=>Y)<|dO 9 ag au (fun _=>fa iD ag) (fun _=>Y)<|dO 10 ag au (fun _=>fa pM ag) (fun _=>Y)<|lh 11 ag au (fun w' A=>ld nB ag<|Md.a7 A ((bo aG.cells).trans ag) cn) Y<|dO 12 ag au (fun _=>a8 (.pointer<|some ⟨H.rb,0,none⟩) ag) (fun _=>Y)<|lh 13 ag au (fun w' A=>dp xc ag (ag) fun j eW=>bX.bF ⟨_,Md.aW A cc eX⟩ j) Y<|dO 14 ag au (fun _=>mv) (fun _=>Y) ?_;refine MO 15 ag au ag (et S9 (AZ B H {F with bG:=F.bG++ [(⟨x,(if r.getD 0 []=dG then 2 else 1:Nat),(decide (r.getD 2 []= [89])),F.rules.length,n⟩:dD)],rules:=F.rules++xs} I aB rest bT seen (⟨x,(if r.getD 0 []=dG then 2 else 1:Nat),(decide (r.getD 2 []= [89])),F.rules.length,n⟩:dD) aV B dv xj aA.drew (aG.wk (Md.refl _ _).drew) (bg.wk (Md.refl _ _).drew) a4 (by show (if r.getD 0 []=dG then 2 else 1)=1∨(if r.getD 0 []=dG then 2 else 1)=2; split <;> simp) (hT15.wk (Md.refl _ _).drew) e9.2) ag fun gg fs ex=> ?_) fun c w' C aO O=>by obtain ⟨e,he,h,h2⟩:=C; exact ⟨_,_,Dm ae aU aS bw (aQ.bad aj da he),h,cH.trans<|Wk.mw<|jk h2⟩
 obtain ⟨q,co,e7,⟨vn,rfl,cX⟩,bC⟩:=ex;obtain ⟨a2,a3,rfl⟩:=cX.slice;have bC:=jk bC;have cP:(fun w'=>Md (fun k=>I.v12.ownBlock=some k) aA w') fs:=Md.mono bC fun _ _ h=>h.elim;refine ⟨cP,?_⟩;refine ic 16 ag au<|lF A6 ag ag ag fun fL ft fR b6 dz=> ?_;have a6:=bC.trans b6.md;have aa:=aG.wk a6;have cK:=bg.wk a6;have eG:=eF.wk a6;have c0:=Wk.aW a6 cc;have eN:=cX.wk b6.md;have ga:=(dT.1 cK.cells).1;have cQ:(fun w'=>Md (fun k=>I.v12.ownBlock=some k) aA w') ft:=cP.trans' b6.md fun _ _ h=>h.elim;refine ⟨cQ,?_⟩;refine ic 17 ag au<|ap A6 (aa.dR) ag aj ag (aR.dZ dz) (ag) (ag) (by simp only [bP]; omega) (by simp only [bP]; omega) fun v131 df c4 aH gd fY=> ?_;have eg:=(cH.trans<|Wk.mw a6).trans<|Mw.of aH (TF.own aa.dR aM) fun k hk=>(dK aa.dR hk).1;have eC:=dP.own cK aa.dR aH aM;have bs:=aH.aW aa.cells<|eh aa.dR aa.cells aM;have ce:=aH.aW c0<|eh aa.dR c0 aM;have eH:=eG.md aH<|ji aa.dR aM;have e0:bB df B 134 7 v131 ((F.rules++xs)++ [q]).length (iQ<|((F.rules++xs)++ [q]).zip<|I.rn++ [.slice a2 q.next.length a3]):=by
  have fr:(F.rules++xs).length=I.rn.length:=by have :=aa.nx.1; rw [fH] at this; exact this.symm
  rw [List.zip_append fr,show iQ ((F.rules++xs).zip I.rn++ [q].zip [.slice a2 q.next.length a3])=iQ ((F.rules++xs).zip I.rn)++fk (q,.slice a2 q.next.length a3) from by simp [iQ],bP];exact c4
 have bM:(fun w'=>Md (fun k=>I.v12.ownBlock=some k) aA w') df:=cQ.trans' aH fun _ _ h=>h;refine ⟨bM,?_⟩;refine dO 18 ag au (fun _=>nc ag) (fun _=>bM)<|dO 19 ag au (fun _=>fa iD ag) (fun _=>bM)<|dO 20 ag au (fun _=>fa pM ag) (fun _=>bM)<|eb 21 ag au au<|dB JL ag ag (v:=v131) (fG c4) bs (by show _ < 14; omega) fun aY am b3=> ?_;have dV:=eu.ze (x:=q) (vx:= .slice a2 q.next.length a3) aa eN aH e0 am b3;have aL:=dP.ql eC bs am;have c1:=am.aW ce fun h=>by rw [h,bs] at ce; cases ce
 have eI:=eH.md am<|gk bs aM;have ei:=eg.trans<|Mw.of am (TF.eq (dS bs) aM) fun k hk=>hk ▸ aa.lo.1;refine fi au<|tn<|d0 _ _ ?_;have aq:(fun w'=>Md (fun k=>aB.vn.ownBlock=some k) aY w') aY.drew:=(Md.refl _ _).drew;refine fj (fun w'=>Md (fun k=>aB.vn.ownBlock=some k) aY w') 13 ag wide aq<|dO 0 ag au (fun _=>a8 (.pointer<|some ⟨H.rb,0,none⟩) ag) (fun _=>aq)<|dO 1 ag au (fun _=>a8 (.pointer<|some ⟨H.rb,0,none⟩) ag) (fun _=>aq)<|dO 2 ag au (fun _=>nc ag) (fun _=>aq)<|dO 3 ag au (fun _=>fa D5 ag) (fun _=>aq)<|lh 4 ag au (fun w' A=>ld qY ag<|Md.a7 A ((bo aL.cells).trans ag)<|eh aL.on aL.cells aM) aq<|dO 5 ag au (fun _=>a8 (.pointer<|some ⟨H.rb,0,none⟩) ag) (fun _=>aq)<|dO 6 ag au (fun _=>nc ag) (fun _=>aq)<|dO 7 ag au (fun _=>fa xH ag) (fun _=>aq)<|lh 8 ag au (fun w' A=>ld bL ag<|Md.a7 A ((bo aL.cells).trans ag)<|eh aL.on aL.cells aM) aq<|ic 9 ag au<|fU lR ag ag fun fM dg fT eo dE=> ?_;have aD:=jk eo.md;have ab:=aL.wk aD;have cC:=dV.wk aD;have gb:=(dT.1 ab.cells).1;have cS:(fun w'=>Md (fun k=>aB.vn.ownBlock=some k) aY w') dg:=Md.mono aD fun _ _ h=>h.elim;refine ⟨cS,?_⟩;refine ic 10 ag au<|ap lR (ab.on) ag aj ag (aR.dZ dE) (ag) (ag) (by simp only [bP]; omega) (by simp only [bP]; omega) fun v145 bV c5 aI ge f1=> ?_;have el:=(ei.trans<|Wk.mw aD).trans<|Mw.of aI (TF.own ab.on aM) fun k hk=>(dK ab.on hk).1;have cW:TF dg [5] (fun k=>aB.vn.ownBlock=some k):=TF.own ab.on aM;have cD:=cC.md aI cW aM fun h=>by obtain ⟨f,ck,_⟩:=cC.cm; exact cW.no (e5 ck) aM h
 have bt:=aI.aW ab.cells<|eh ab.on ab.cells aM;have cg:=aI.aW (Wk.aW aD c1)<|eh ab.on (Wk.aW aD c1) aM;have eM:=(eI.wk aD).md aI<|ji ab.on aM;have e1:bB bV B 3 1 v145 ((F.rules++xs)++ [q]).length (((F.rules++xs)++ [q]).map fun r=>gY .i64 (r.line:Nat)):=by
  rw [fZ,bP];show bB bV B 3 1 v145 _ (_++ [gY .i64 (q.line:Nat)]);rw [e7];exact c5
 have b9:(fun w'=>Md (fun k=>aB.vn.ownBlock=some k) aY w') bV:=cS.trans' aI fun _ _ h=>h;refine ⟨b9,?_⟩;refine dO 11 ag au (fun _=>nc ag) (fun _=>b9)<|dO 12 ag au (fun _=>fa D5 ag) (fun _=>b9)<|eb 13 ag au au<|dB JT ag ag (v:=v145) (fG c5) bt (by show _ < 7; omega) fun bU bb dy=> ?_;have cV:TF bV [169] (fun k=>k=H.rb):=TF.eq (dS bt) aM;have dW:=cD.md bb cV aM fun h=>by obtain ⟨f,ck,_⟩:=cD.cm; exact cV.no (e5 ck) aM h
 exact fi au<|bn<|tn<|dX _ _<|rg ag<|p (ad ag ag<|cR aj)<|p mv<|nl<|tn<|⟨_,aj,i+1,xs++ [q],rest,bT,{I with v12:=v131,rn:=I.rn++ [.slice a2 q.next.length a3]},{aB with vn:=v145},aj,(by rw [show n - (i+1)=n - i - 1 by omega]; exact aQ.step aj da co),(by rw [bP,fq]; rfl),(by rw [← e6]; exact dW),(by rw [← e6]; exact dP.aaM (q:=q) ab aI e1 bb dy ag fun _=>rfl),(⟨by simp only [bP,fE]; omega,a4.sl,a4.row,a4.kd,a4.al⟩),(el.trans<|Mw.of bb (TF.eq (dS bt) aM) fun k hk=>hk ▸ ab.lo.1),(bb.aW cg fun h=>by rw [h,bt] at cg; cases cg),(eM.md bb<|gk bt aM),ag,ag⟩
 refine ext<|te _<|te _<|be<|kr<|f0 ag ?_;rw [show n - i=0 by omega] at aQ;exact ⟨ag,_,rows',bS,UM ae aU aS bw aQ.done,⟨I,R',cB,ax,a5⟩,cF⟩
end Go.Hb.pc
end
section
namespace Go.Hb
open Go.Hb.pc Go.Hb.pf
def uU:dD:=⟨0,0,false,0,0⟩
theorem Xt {x:Nat} :∀ {cs:List dD} {i:Nat},cs.findIdx? (fun c=>decide (c.flag=x))=some i→∃ c,cs[i]? =some c∧eB cs x=some c:=by
 intro cs
 induction cs with
 | nil=>intro i h; simp at h
 | cons a l E=>
   intro i h;rw [List.findIdx?_cons] at h;unfold eB;rw [QG];by_cases A:a.flag=x
   · simp only [A,decide_true,if_true] at h ⊢;cases h;exact ⟨a,ag,ag⟩
   · simp only [A,decide_false] at h ⊢;simp only [Bool.false_eq_true,if_false,Option.map_eq_some_iff] at h;obtain ⟨j,C,rfl⟩:=h;obtain ⟨c,h1,h2⟩:=E C;exact ⟨c,by simpa using h1,h2⟩
theorem NC {F:aX} {x:Nat} (h:x=F.sp.getD 0 0):nS F x=true :=by unfold nS; rw [decide_eq_true h]; rfl
theorem ND {F:aX} {x:Nat} (h:(eB F.bG x).isSome=true) (hk:((eB F.bG x).getD uU).kind=2):nS F x=true :=by
 unfold nS;obtain ⟨c,A⟩:=ot.1 h;rw [A] at hk ⊢;simp only [Cj] at hk;simp [hk]
theorem AP {F:aX} {x:Nat} (A:x≠F.sp.getD 0 0) (h:(eB F.bG x).isSome=true) (hk:((eB F.bG x).getD uU).kind≠2):nS F x=false :=by
 unfold nS;obtain ⟨c,C⟩:=ot.1 h;rw [C] at hk ⊢;simp only [Cj] at hk;rw [decide_eq_false A];simp [hk]
theorem AQ {F:aX} {x:Nat} (A:x≠F.sp.getD 0 0) (h:(eB F.bG x).isSome=false):nS F x=false :=by
 unfold nS;rw [decide_eq_false A];cases hc:eB F.bG x with
 | none=>rfl
 | some c=>rw [hc] at h; cases h
theorem r6 {F:aX} {q:dd} {j:Nat} (A:j < q.next.length) (h:nS F (q.next.getD j 0)=false):po F q=true :=by
 unfold po;rw [List.any_eq_true];exact ⟨_,ek A,by rw [h]; rfl⟩
theorem H8 {F:aX} {q:dd} (h:∀ j,j < q.next.length→nS F (q.next.getD j 0)=true):po F q=false :=by
 unfold po;rw [List.any_eq_false];intro x C;obtain ⟨j,A,rfl⟩:=mY 0 C;rw [h j A]; simp
theorem sn {p:dd→Bool} {q:dd} :∀ {l:List dd} {i:Nat},(∀ j A,j < i→l[j]? =some A→p A=false)→l[i]? =some q→p q=true→l.find? p=some q:=by
 intro l
 induction l with
 | nil=>intro i _ h; simp at h
 | cons a l G=>
   intro i C hi hp;rw [QG];cases i with
   | zero=>simp only [wv,Option.some.injEq] at hi; subst hi; rw [hp]
   | succ i=>
     rw [C 0 a aj rfl];exact G (i:=i) (fun j A I E=>C (j+1) A aj<|by simpa using E) (by simpa using hi) hp
theorem KR {p:dd→Bool} {l:List dd} (h:∀ j C,j < l.length→l[j]? =some C→p C=false):l.find? p=none:=by
 rw [Hm];intro q E;obtain ⟨j,A⟩:=ur E;rw [h j q (fS.1 A).1 A]; simp
theorem Xv {x:Nat} {cs:List dD} (h:cs.findIdx? (fun c=>decide (c.flag=x))=none):eB cs x=none:=by
 rw [QH] at h;unfold eB;rw [Hm];intro c A;simpa using h c A
theorem DL (B fb mc:Nat) (F:aX) (V:fN) (x:Nat) (w:World) (C:eu w B fb mc F V) (aO:F.bG.length≤70000):
 bw aE 136 (bl [a6 fb,bA x]) w (fun v w'=>v= .tuple #[.agg (pF<|(eB F.bG x).getD uU).toArray,.bool (eB F.bG x).isSome]∧Wk w w'):=by
 obtain ⟨an,lG,aa⟩:=cM C.eS;have Y:=C.eS;rw [aa] at Y;have av:Hb.a7 w.heap fb 11=some (.slice an F.bG.length lG):=by rw [← aa]; exact (bo C.cells).trans rfl
 obtain ⟨f,aB,aC⟩:=C.cm;obtain ⟨iv,ob,aD,aG,J⟩:∃ (iv:Nat) (ob:Bool),(f<|bA x).getD (.int .i64 0)=ay iv∧(f<|bA x).isSome=ob∧((ob=false∧eB F.bG x=none)∨(ob=true∧∃ c,F.bG[iv]? =some c∧eB F.bG x=some c)):=by
  rw [aC x];cases hfi:F.bG.findIdx? (fun c=>decide (c.flag=x)) with
  | none=>exact ⟨0,false,rfl,rfl,.inl ⟨rfl,Xv hfi⟩⟩
  | some i=>exact ⟨i,true,rfl,rfl,.inr ⟨rfl,Xt hfi⟩⟩
 refine enter func136 ag ntmps136 ag<|ak fun ab=>e<|al vY fun aL aP aM A I=>az<|ab<|aH fun ac=>aH fun ae=>rg ag<|aw (a6 fb)<|p (lJ yr ag ag)<|nl<|ae<|cf (ag)<|aT<|ac<|ak fun ah=>aw (a6 fb)<|p (nc ag)<|p (fa Lv ag)<|p (ld xa ag<|Wk.a7 A.md<|(bo C.cells).trans ag)<|aw (bA x)<|p (MU tX oX tG (aB.wk A.md) ag ag (⟨_,ag⟩) (aD)<|aG)<|p mv<|p (xt ag ag)<|p (xt ag ag)<|p aJ<|az<|ah<|aH fun ai=>ak fun am=>p mv<|p (no ag)<|nl<|am<|cb ag (fun G=> ?_) fun G=> ?_;have aI:ob=false :=by simpa using G
 have aA:eB F.bG x=none:=by rcases J with ⟨_,h⟩ | ⟨h,_⟩; exact h; rw [aI] at h; cases h
 exact ak fun E=>p (dt (ps:= []) (L:= [.int .u16 0,.int .i64 0,.bool false,.int .i64 0,.int .i64 0]) Gf ag<|ag)<|e<|dy tB ag ag ag ag (I) (by simp) fun aQ aq ao=>az<|E<|rt<|tr<|eV ag (eo (cs:=pF uU) ag xc ag fun j aF=>ao.bF j) eI<|⟨by rw [aA]; rfl,A.md.trans' aq fun k hk h=>by omega⟩
 have aK:ob=true :=by simpa using G
 obtain ⟨c,O,ax⟩:∃ c,F.bG[iv]? =some c∧eB F.bG x=some c:=by rcases J with ⟨h,_⟩ | ⟨_,h⟩; rw [aK] at h; cases h; exact h
 have aN:=(fS.1 O).1;have Z:=bc Y A.md;exact aT<|ai<|ak fun E=>aw (a6 fb)<|p (nc ag)<|p (fa iD ag)<|p (fa vc ag)<|p (ld y7 ag<|Wk.a7 A.md av)<|p mv<|p (bh Xh ag ag aj<|aR.ok ((bg Z).2) fun h=>by have :=congrArg jV h; rw [show (oF F.bG).length=F.bG.length*5 from mV (f:=pF) (m:=5) (fun _=>rfl) _] at this; simp at this; omega)<|p (dp xc ag (ag)<|fO (f:=pF) (m:=5) (fun _=>rfl) (bg Z).2 O)<|e<|dy tB ag ag ag ag (I) (by simp) fun aS au ap=>az<|E<|rt<|eV ag (eo (cs:=pF c) ag xc ag fun j aF=>ap.bF j) eI<|⟨by rw [ax]; rfl,A.md.trans' au fun k hk h=>by omega⟩
theorem UE (B:Nat) (H:dI) (F:aX) (rows:List Rw) (ln:Nat) (seen:List Tx) (w:World) (bC:St w B H F rows ln seen) (bP:∀ q∈F.rules,q.next.length≤64):
 gv aE 76 (bl [.pointer (some ⟨H.rb,0,none⟩)]) w (fun v w'=>v= .tuple #[]∧F.rules.find? (po F)=none∧(∃ V R' av,eu w' B H.fb H.mc F V∧dP w' B H F R' rows av seen)∧gu B H w w') (fun c w'=> ∃ q,F.rules.find? (po F)=some q∧c=j0 45 q.line 118∧gu B H w w'):=by
 obtain ⟨V,R,O,ap,a4⟩:=bC;obtain ⟨a12,ay,aL⟩:=cM O.dR;have bQ:=O.dR;rw [aL] at bQ;have bG:Hb.a7 w.heap H.fb 12=some (.slice a12 F.rules.length ay):=by rw [← aL]; exact (bo O.cells).trans rfl
 obtain ⟨vr,vs,vn⟩:=R;obtain ⟨am,cv,bX⟩:=cM ap.on;obtain rfl :vn= .slice am F.rules.length cv:=bX;have cj:=a4.len;have ck:=ap.lo;refine kR func76 ag ntmps76 ag<|sq fun b2 bf=>rg ag<|p (a8 (.pointer<|some ⟨H.rb,0,none⟩) ag)<|p (nc ag)<|p (fa jg ag)<|p (ld gP ag<|(bo ap.cells).trans ag)<|p (nc ag)<|p (fa iD ag)<|p (fa pM ag)<|p (ld nB ag<|bG)<|p (bN sR ag ag)<|p mv<|nl<|tn<|bf _ _<|aW<|lp (fun ab a2 ak=> ∃ (i av:Nat),(i≤F.rules.length)∧(∀ j q,j < i→F.rules[j]? =some q→po F q=false)∧(eu ak B H.fb H.mc F V)∧(dP ak B H F ⟨vr,vs,.slice am F.rules.length cv⟩ rows av seen)∧(gu B H w ak)∧(Sl a2 [(0,.pointer (some ⟨H.rb,0,none⟩)),(15,.slice a12 F.rules.length ay),(16,.int .i64 (F.rules.length:Nat)),(17,.int .i64 (i:Nat))])∧(F.rules.length - i=ab)) _ ⟨0,ln,aj,(fun j q aU=>by omega),O,ap,(Md.refl _ _),ag,ag⟩ ?_;rintro ab a2 ak ⟨i,av,hi,J,ao,aD,aO,bU,rfl⟩;refine bH bU<|sq fun b6 bk=>rg ag<|p (lt ag ag)<|nl<|tn<|bk _ _<|sq fun b7 bm=>cd ag (fun bJ=> ?_) fun bJ=> ?_;refine aT<|tn<|bm _ _<|sq fun b8 bp=>aW<|sq fun b9 bq=> ?_;have aH:=ao.dR;rw [aL] at aH;have aS:i < F.rules.length:=aj;obtain ⟨vn,bW,aG⟩:=eU.get ao.nx (i:=i)<|by rw [fH]; exact aS
 obtain ⟨q,C⟩:∃ q,F.rules[i]? =some q:=⟨_,cz aS⟩
 have bS:(F.rules.map (·.next)).getD i []=q.next:=by rw [da,gi,C]; rfl
 rw [bS] at aG;have cn:=bP q<|gL C;obtain ⟨ax,az,rfl⟩:=aG.slice;have aV:(F.rules.zip V.rn)[i]? =some (q,.slice ax q.next.length az):=by rw [j9]; exact ⟨C,bW⟩
 have aY:(iQ<|F.rules.zip V.rn).length=(F.rules.zip V.rn).length*7:=mV (f:=fk) (m:=7) (fun _=>rfl) _;have bO:(F.rules.map fun r=>gY .i64 (r.line:Nat))[i]? =some (.int .i64 (q.line:Nat)):=by rw [gi,C]; rfl
 refine rg ag<|p (a8 (.int .i64 (i:Nat)) ag)<|p (bh nH ag ag aj<|aR.ok ((bg aH).2) (fun h=>by rw [h] at aY; have h2:0=(F.rules.zip V.rn).length*7:=aY; have h3:=(fS.1 aV).1; omega)) ?_;refine p (dp l6 ag (ag)<|fO (f:=fk) (m:=7) (fun _=>rfl) (bg aH).2 aV)<|e<|al rH fun cf cq ch aQ a6=> ?_
 skip
 refine p (cV (.int .i64 (i:Nat)) ag)<|e<|dy pI ag ag ag ag (a6) (by simp) fun b1 bv a5=> ?_;have an:Wk ak b1:=aQ.md.trans' bv fun k hk h=>by omega
 have bc:=ao.wk an;have E:=aD.wk an;have co:=aQ.size;have cm:=(dT.1 aD.cells).1;refine nl<|tn<|bq _ _<|sq fun ca br=>rg ag<|p (a8 (.pointer<|some ⟨H.rb,0,none⟩) ag)<|p (a8 (.pointer<|some ⟨H.rb,0,none⟩) ag)<|p (nc ag)<|p (fa D5 ag)<|p (ld qY ag<|(bo E.cells).trans ag)<|p (a8 (.int .i64 (i:Nat)) ag)<|p (bh kp ag ag aj<|aR.ok ((bg E.on).2)<|by simp; intro h; rw [h] at C; simp at C)<|p (ld bL ag<|aR.gQ (bg E.on).2 bO)<|p (nc ag)<|p (fa xH ag)<|e<|dB hZ ag ag (v:= .int .i64 (q.line:Nat)) ag E.cells (by show _ < 7; decide) fun cu ae bb=> ?_;have bB:=E.ea (R':=⟨vr,vs,.slice am F.rules.length cv⟩) (ln':=q.line) ae bb rfl E.rws E.rt;have bd:=bc.rb E ae;have bF:=ae.B a5 fun h=>by omega
 have bE:=(aG.wk an).md ae<|gk E.cells aM;have bx:=(aO.trans<|Wk.mw an).trans<|gu.rb E ae;refine nl<|tn<|br _ _<|sq fun cb bs=>rg ag<|p (fa ss ag)<|p (ld oA ag<|(bF.a7 6).trans ag)<|p (bN qA ag ag)<|p mv<|nl<|tn<|bs _ _<|aW<|lp (fun ab a3 aa=> ∃ (j:Nat),(j≤q.next.length)∧(∀ ai,ai < j→nS F (q.next.getD ai 0)=true)∧(eu aa B H.fb H.mc F V)∧(dP aa B H F ⟨vr,vs,.slice am F.rules.length cv⟩ rows q.line seen)∧(gu B H w aa)∧(Tg aa B 95 q.next.length (.slice ax q.next.length az)<|q.next.map bA)∧(Sl a3 [(0,.pointer (some ⟨H.rb,0,none⟩)),(15,.slice a12 F.rules.length ay),(16,.int .i64 (F.rules.length:Nat)),(17,.int .i64 (i:Nat)),(33,.slice ax q.next.length az),(34,.int .i64 (q.next.length:Nat)),(35,.int .i64 (j:Nat))])∧(q.next.length - j=ab)) _ ⟨0,aj,(fun ai bM=>by omega),bd,bB,bx,bE,ag,ag⟩ ?_;rintro ab a3 aa ⟨j,aU,aI,aB,aF,aP,aq,bV,rfl⟩;refine bH bV<|sq fun cc bt=>rg ag<|p (lt ag ag)<|nl<|tn<|bt _ _<|sq fun ce bu=>cd ag (fun bK=> ?_) fun bK=> ?_;refine aT<|tn<|bu _ _<|sq fun b3 aC=>aW<|sq fun b4 bi=> ?_;have bZ:(q.next.map bA)[j]? =some (bA<|q.next.getD j 0):=by rw [gi,da,cz (by omega :j < q.next.length)]; rfl
 refine rg ag<|p (bh cQ ag ag aj<|aR.ok (aq.du.2)<|bY aj)<|p (ld dA ag<|aR.gQ aq.du.2 bZ)<|p aJ<|nl<|tn<|bi _ _<|sq fun b5 bj=>rg ag<|p (a8 (.pointer<|some ⟨H.rb,0,none⟩) ag)<|p (nc ag)<|p (fa jg ag)<|p (ld gP ag<|(bo aF.cells).trans ag)<|p mv<|e<|cl CL (DL B H.fb H.mc F V (q.next.getD j 0) _ aB aj) ag ?_;rintro v45 cs ⟨rfl,aN⟩;have cp:=aN.size;refine p mv<|p (xt ag ag)<|p (xt ag ag)<|e<|al vY fun cg ct ci bz a9=>e<|dy tB ag ag ag ag (a9) (by simp) fun aw bw ba=> ?_;have ac:Wk aa aw:=(aN.trans bz.md).trans' bw fun k hk h=>by omega
 have aA:=aB.wk ac;have Z:=aF.wk ac;have G:=aP.trans<|Wk.mw ac;refine p aJ<|nl<|tn<|bj _ _<|rg ag<|p (a8 (.pointer<|some ⟨H.rb,0,none⟩) ag)<|p mv<|p (a8 (.pointer<|some ⟨H.rb,0,none⟩) ag)<|p (nc ag)<|p (fa jg ag)<|p (ld gP ag<|(bo Z.cells).trans ag)<|p (nc ag)<|p (fa iD ag)<|p (fa z7 ag)<|p (kT xf ag ag aj)<|p (ld dA ag<|(bo aA.cells).trans ag)<|p (bT ag ag)<|p mv<|gs (t:=60) ag (fun Y=> ?_) fun Y=> ?_;refine sk ag ag ag ag<|sk ag ag ag ag<|A4 ag ag ag<|A4 ag ag ag<|A4 ag ag ag<|sk ag ag ag ag<|p (bI ag) ?_;refine eP ag (et jo (jv H.rb q.line _ 118 aw Z.dH aM) ag fun aZ a0 ah=> ?_) (fun c w' A a1 O=>by
  first
   | exact absurd A.2.1 aM
   | exact ⟨q,sn J C (r6 (j:=j) aj<|AP (fun h=>Y<|by rw [h]) I<|by have :=of_decide_eq_false A.2.1; omega),A.1,by rw [A.2.2]; exact G⟩
   | exact ⟨q,sn J C (r6 (j:=j) aj<|AQ (fun h=>Y<|by rw [h])<|by simpa using I),A.1,by rw [A.2.2]; exact G⟩)
 obtain ⟨rfl,au,rfl⟩:=ah;exact nl<|bn<|tn<|aC _ _<|rg ag<|p (ad ag ag<|cR aj)<|p mv<|nl<|tn<|⟨_,aj,j+1,aj,(fun k hk=>by rcases fT k j with h | h <;> first | exact aI k h | (rw [show k=j by omega]; exact NC aj)),aA,Z,G,(aq.wk ac),ag,ag⟩
 refine pg ag ag ag mv<|pg ag ag ag mv<|gb (t:=62) ag (fun I=> ?_) fun I=> ?_;refine pg ag ag ag (fa xJ ag)<|pg ag ag ag (ld bL ag<|(ba.a7 1).trans ag)<|pg ag ag ag (bT ag ag)<|pg ag ag ag (bI ag)<|p (bD ag) ?_;refine eP ag (et jo (jv H.rb q.line _ 118 aw Z.dH aM) ag fun aZ a0 ah=> ?_) (fun c w' A a1 O=>by
  first
   | exact absurd A.2.1 aM
   | exact ⟨q,sn J C (r6 (j:=j) aj<|AP (fun h=>Y<|by rw [h]) I<|by have :=of_decide_eq_false A.2.1; omega),A.1,by rw [A.2.2]; exact G⟩
   | exact ⟨q,sn J C (r6 (j:=j) aj<|AQ (fun h=>Y<|by rw [h])<|by simpa using I),A.1,by rw [A.2.2]; exact G⟩)
 obtain ⟨rfl,au,rfl⟩:=ah;exact nl<|bn<|tn<|aC _ _<|rg ag<|p (ad ag ag<|cR aj)<|p mv<|nl<|tn<|⟨_,aj,j+1,aj,(fun k hk=>by rcases fT k j with h | h <;> first | exact aI k h | (rw [show k=j by omega]; exact ND I<|by have :=of_decide_eq_true au; omega)),aA,Z,G,(aq.wk ac),ag,ag⟩
 refine sk ag ag ag ag<|sk ag ag ag ag<|sk ag ag ag ag<|pg ag ag ag (bD ag)<|p (bD ag) ?_;refine eP ag (et jo (jv H.rb q.line _ 118 aw Z.dH aM) ag fun aZ a0 ah=> ?_) (fun c w' A a1 O=>by
  first
   | exact absurd A.2.1 aM
   | exact ⟨q,sn J C (r6 (j:=j) aj<|AP (fun h=>Y<|by rw [h]) I<|by have :=of_decide_eq_false A.2.1; omega),A.1,by rw [A.2.2]; exact G⟩
   | exact ⟨q,sn J C (r6 (j:=j) aj<|AQ (fun h=>Y<|by rw [h])<|by simpa using I),A.1,by rw [A.2.2]; exact G⟩)
 obtain ⟨rfl,au,rfl⟩:=ah;exact nl<|bn<|tn<|aC _ _<|rg ag<|p (ad ag ag<|cR aj)<|p mv<|nl<|tn<|absurd au aM;exact ext<|te _<|te _<|be<|bn<|tn<|bp _ _<|rg ag<|p (ad ag ag<|cR aj)<|p mv<|nl<|tn<|⟨_,aj,i+1,q.line,aj,(fun k b0 hk aK=>by rcases fT k i with h | h <;> first | exact J k b0 h aK | (rw [show k=i by omega,C] at aK; cases aK; exact H8 fun ai bM=>aI ai aj)),aB,aF,aP,ag,ag⟩
 refine ext<|te _<|te _<|be<|kr<|f0 ag ?_;exact ⟨ag,KR (fun j q aU bR=>J j q aj bR),⟨V,_,_,ao,aD⟩,aO⟩
end Go.Hb
end
namespace Go.Hb
def Nx (F:aX):Prop :=(∀ l∈F.aliases,l.length≤64)∧∀ q∈F.rules,q.next.length≤64
theorem Et {α:Type} {hd:List Tx} {rd:Nat→List Tx→Except Nat α} {eof:Nat} :∀ (n:Nat) (rows:List Rw) (r:List α×List Rw),group hd rd eof n rows= .ok r→∀ x∈r.1,∃ ln row,rd ln row= .ok x:=by
 intro n
 induction n with
 | zero=>intro rows r h; simp only [group,ud] at h; subst h; intro x A; cases A
 | succ n C=>
   intro rows r h;cases rows with
   | nil=>simp [group] at h
   | cons q rows=>
     obtain ⟨ln,row⟩:=q;simp only [group] at h;split at h
     · cases h
     · cases hr:rd ln row with
       | error e=>rw [hr] at h; cases h
       | ok y=>
         rw [hr] at h;simp only at h;cases hg:group hd rd eof n rows with
         | error e=>rw [hg] at h; cases h
         | ok E=>
           rw [hg] at h;simp only [ud] at h;subst h;intro x A;rcases eL.1 A with A | A
           · exact ⟨ln,row,by rw [A]; exact hr⟩
           · exact C rows E hg x A
theorem LH {kind:Nat} {s:Tx} {l:List Nat} (h:lK kind s= .ok l):l.length≤64:=by
 unfold lK at h;split at h
 · cases h
 · rename_i A;cases h;exact (LF<|jT.1 A).1
theorem RF {kind ln:Nat} {row:List Tx} {l:List Nat} (h:k8 kind ln row= .ok l):l.length≤64:=by
 unfold k8 at h;split at h
 · cases h
 · exact LH h
theorem zX {kind:Nat} {al:List (List Nat)} {s:Tx} {l:List Nat} (A:∀ l∈al,l.length≤64) (h:gJ kind al s= .ok l):l.length≤64:=by
 unfold gJ at h;split at h
 · exact LH h
 · split at h
   · cases h
   · split at h
     · cases h
     · cases h;rename_i n _ _;rw [da];cases hg:al[n - 1]? with
       | none=>simp
       | some x=>exact A x<|gL hg
theorem acj {kind ln:Nat} {al:List (List Nat)} {c:dD} {row:List Tx} {q:dd} (C:∀ l∈al,l.length≤64) (h:gy kind al c ln row= .ok q):q.next.length≤64:=by
 unfold gy at h;split at h
 · cases h
 · split at h
   · cases h
   · split at h
     · cases h
     · split at h
       · cases h
       · rename_i nx A;split at h
         · cases h
         · cases h;unfold lO at A;split at A
           · split at A
             · cases A
             · exact zX C A
           · cases A; simp
theorem Ar {eof ln:Nat} {F F':aX} {hs:List Tx} {rows rows':List Rw} {row:List Tx} (h:Nx F) (A:cW eof F hs rows ln row= .ok (F',rows')):Nx F':=by
 unfold cW at A;split at A
 · unfold kF at A;split at A
   · cases A
   · cases A; exact h
 · split at A
   · unfold kW at A;split at A
     · cases A
     · split at A
       · cases A
       · cases A; exact h
   · split at A
     · unfold nb at A;split at A
       · cases A
       · cases A; exact h
     · split at A
       · unfold nk at A;split at A
         · cases A
         · cases A; exact h
       · split at A
         · unfold lj at A;split at A
           · cases A
           · split at A
             · cases A
             · cases A; exact h
         · split at A
           · unfold kE at A;split at A
             · cases A
             · split at A
               · cases A
               · cases A; exact h
           · split at A
             · unfold kn at A;split at A
               · cases A
               · split at A
                 · cases A
                 · split at A
                   · cases A
                   · rename_i r G;cases A;refine ⟨fun l C=> ?_,h.2⟩;rcases gq.1 C with C | C
                     · exact h.1 l C
                     · obtain ⟨_,_,h2⟩:=Et _ _ _ G l C;exact RF h2
             · unfold iu at A;split at A
               · cases A
               · split at A
                 · cases A
                 · split at A
                   · cases A
                   · split at A
                     · cases A
                     · split at A
                       · cases A
                       · rename_i r G;cases A;refine ⟨h.1,fun q E=> ?_⟩;rcases gq.1 E with E | E
                         · exact h.2 q E
                         · obtain ⟨_,_,h2⟩:=Et _ _ _ G q E;exact acj h.1 h2
theorem Y4 {eof ln:Nat} {F F':aX} {hs:List Tx} {rows rows':List Rw} {row:List Tx} (C:row.getD 0 []∉eF) (A:cW eof F hs rows ln row= .ok (F',rows')):F'.sp=F.sp:=by
 unfold cW at A;rw [if_neg C] at A;unfold kW nb nk lj kE kn iu at A
 repeat' split at A
 all_goals first
  | (cases A; done)
  | (cases A; rfl)
theorem Mk {eof ln:Nat} {F F':aX} {seen:List Tx} {rows rows':List Rw} {row:List Tx} (h:k6 F seen) (A:cW eof F seen rows ln row= .ok (F',rows')):k6 F' (seen++ [row.getD 0 []]):=by
 intro k hk E;rw [gq,List.mem_singleton] at E;have I:k∉seen:=fun h=>E<|.inl h;have J:k≠row.getD 0 []:=fun h=>E<|.inr h;by_cases C:row.getD 0 []∈eF
 · unfold cW at A;rw [if_pos C] at A;unfold kF at A;split at A
   · cases A
   · cases A;show (F.sp.set (eF.idxOf<|row.getD 0 []) _).getD (eF.idxOf k) 0=0;rw [da,lW,if_neg,← da]
     · exact h k hk I
     · intro he;have G:∀ a∈eF,eF.getD (eF.idxOf a) []=a:=aM;have h1:=G _ C;have h2:=G _ hk;rw [he] at h1;exact J<|h2.symm.trans h1
 · rw [Y4 C A]; exact h k hk I
def js (s:Tx):Option Value:=if s=dG then some (ca #[.int .i64 (4:Nat),.func (.func 134) #[] #[]]) else if s=gx then some (ca #[.int .i64 (4:Nat),.func (.func 134) #[] #[]]) else if s=ff then some (ca #[.int .i64 (2:Nat),.func (.func 133) #[] #[]]) else if s=fQ then some (ca #[.int .i64 (2:Nat),.func (.func 132) #[] #[]]) else if s=kU then some (ca #[.int .i64 (2:Nat),.func (.func 131) #[] #[]]) else if s=mE then some (ca #[.int .i64 (2:Nat),.func (.func 130) #[] #[]]) else if s=mj then some (ca #[.int .i64 (2:Nat),.func (.func 130) #[] #[]]) else if s=lM then some (ca #[.int .i64 (2:Nat),.func (.func 130) #[] #[]]) else if s=lg then some (ca #[.int .i64 (2:Nat),.func (.func 130) #[] #[]]) else if s=kV then some (ca #[.int .i64 (2:Nat),.func (.func 130) #[] #[]]) else if s=jz then some (ca #[.int .i64 (2:Nat),.func (.func 129) #[] #[]]) else if s=jt then some (ca #[.int .i64 (2:Nat),.func (.func 128) #[] #[]]) else if s=jh then some (ca #[.int .i64 (2:Nat),.func (.func 127) #[] #[]]) else none
def zF:Value→Option Value:=fun _=>none
def zG:Tx→Option Value:=fun _=>none
theorem str_inj {a b:Tx} :str a=str b↔a=b:=⟨fun h=>by unfold str at h; cases h; rfl,fun h=>by rw [h]⟩
theorem nV {f:Value→Option Value} {g:Tx→Option Value} {k:Tx} {v:Value} (h:∀ s,f (str s)=g s) (s:Tx):bZ f (str k) v (str s)=if s=k then some v else g s:=by
 by_cases hs:s=k
 · subst hs; rw [oR,if_pos rfl]
 · rw [mF (fun h2=>hs<|str_inj.1 h2),if_neg hs,h s]
theorem Y5 (w:World):
 bw aE 73 (bl []) w (fun v w'=> ∃ b,v= .map (some b)∧b=w.heap.size∧(∃ f,dq w'.heap b j5 f∧∀ s,f (str s)=js s)∧Wk w w'):=by
 refine enter func73 ag ntmps73 ag<|ak fun ai=>az<|ai<|ak fun aj=>e<|tN fun A C bo aT al=> ?_;have aU:dq C.heap A j5 zF:=dq.nil al;have bp:∀ s:Tx,zF (str s)=zG s:=fun _=>rfl;have am:Wk w C:=aT.md;refine p (dt (ps:= [(0,ay 2),(1,.func (.func 127) #[] #[])]) (L:= [ay 2,.func (.func 127) #[] #[]]) n9 ag<|ag)<|e<|nO nm jD (aU) ag ag ag (⟨_,ag⟩) fun V aL a0=> ?_;have a8:dq V.heap A j5 (bZ zF (str jh)<|ca #[ay 2,.func (.func 127) #[] #[]]):=a0;have bq:=nV (k:=jh) (v:=ca #[ay 2,.func (.func 127) #[] #[]]) bp;have an:Wk w V:=am.trans' aL fun k hk h=>by omega
 refine p (dt (ps:= [(0,ay 2),(1,.func (.func 128) #[] #[])]) (L:= [ay 2,.func (.func 128) #[] #[]]) n9 ag<|ag)<|e<|nO nm jD (a8) ag ag ag (⟨_,ag⟩) fun ac aQ a5=> ?_;have a9:dq ac.heap A j5 (bZ (bZ zF (str jh)<|ca #[ay 2,.func (.func 127) #[] #[]]) (str jt)<|ca #[ay 2,.func (.func 128) #[] #[]]):=a5;have bv:=nV (k:=jt) (v:=ca #[ay 2,.func (.func 128) #[] #[]]) bq;have av:Wk w ac:=an.trans' aQ fun k hk h=>by omega
 refine p (dt (ps:= [(0,ay 2),(1,.func (.func 129) #[] #[])]) (L:= [ay 2,.func (.func 129) #[] #[]]) n9 ag<|ag)<|e<|nO nm jD (a9) ag ag ag (⟨_,ag⟩) fun ae aR a6=> ?_;have bf:dq ae.heap A j5 (bZ (bZ (bZ zF (str jh)<|ca #[ay 2,.func (.func 127) #[] #[]]) (str jt)<|ca #[ay 2,.func (.func 128) #[] #[]]) (str jz)<|ca #[ay 2,.func (.func 129) #[] #[]]):=a6;have bx:=nV (k:=jz) (v:=ca #[ay 2,.func (.func 129) #[] #[]]) bv;have aw:Wk w ae:=av.trans' aR fun k hk h=>by omega
 refine p (dt (ps:= [(0,ay 2),(1,.func (.func 130) #[] #[])]) (L:= [ay 2,.func (.func 130) #[] #[]]) n9 ag<|ag)<|e<|nO nm jD (bf) ag ag ag (⟨_,ag⟩) fun ah aS a7=> ?_;have bg:dq ah.heap A j5 (bZ (bZ (bZ (bZ zF (str jh)<|ca #[ay 2,.func (.func 127) #[] #[]]) (str jt)<|ca #[ay 2,.func (.func 128) #[] #[]]) (str jz)<|ca #[ay 2,.func (.func 129) #[] #[]]) (str kV)<|ca #[ay 2,.func (.func 130) #[] #[]]):=a7;have bz:=nV (k:=kV) (v:=ca #[ay 2,.func (.func 130) #[] #[]]) bx;have ax:Wk w ah:=aw.trans' aS fun k hk h=>by omega
 refine p (dt (ps:= [(0,ay 2),(1,.func (.func 130) #[] #[])]) (L:= [ay 2,.func (.func 130) #[] #[]]) n9 ag<|ag)<|e<|nO nm jD (bg) ag ag ag (⟨_,ag⟩) fun E aG aV=> ?_;have bh:dq E.heap A j5 (bZ (bZ (bZ (bZ (bZ zF (str jh)<|ca #[ay 2,.func (.func 127) #[] #[]]) (str jt)<|ca #[ay 2,.func (.func 128) #[] #[]]) (str jz)<|ca #[ay 2,.func (.func 129) #[] #[]]) (str kV)<|ca #[ay 2,.func (.func 130) #[] #[]]) (str lg)<|ca #[ay 2,.func (.func 130) #[] #[]]):=aV;have bA:=nV (k:=lg) (v:=ca #[ay 2,.func (.func 130) #[] #[]]) bz;have aA:Wk w E:=ax.trans' aG fun k hk h=>by omega
 refine p (dt (ps:= [(0,ay 2),(1,.func (.func 130) #[] #[])]) (L:= [ay 2,.func (.func 130) #[] #[]]) n9 ag<|ag)<|e<|nO nm jD (bh) ag ag ag (⟨_,ag⟩) fun G aH aW=> ?_;have bi:dq G.heap A j5 (bZ (bZ (bZ (bZ (bZ (bZ zF (str jh)<|ca #[ay 2,.func (.func 127) #[] #[]]) (str jt)<|ca #[ay 2,.func (.func 128) #[] #[]]) (str jz)<|ca #[ay 2,.func (.func 129) #[] #[]]) (str kV)<|ca #[ay 2,.func (.func 130) #[] #[]]) (str lg)<|ca #[ay 2,.func (.func 130) #[] #[]]) (str lM)<|ca #[ay 2,.func (.func 130) #[] #[]]):=aW;have bB:=nV (k:=lM) (v:=ca #[ay 2,.func (.func 130) #[] #[]]) bA;have aB:Wk w G:=aA.trans' aH fun k hk h=>by omega
 refine p (dt (ps:= [(0,ay 2),(1,.func (.func 130) #[] #[])]) (L:= [ay 2,.func (.func 130) #[] #[]]) n9 ag<|ag)<|e<|nO nm jD (bi) ag ag ag (⟨_,ag⟩) fun I aI aX=> ?_;have bj:dq I.heap A j5 (bZ (bZ (bZ (bZ (bZ (bZ (bZ zF (str jh)<|ca #[ay 2,.func (.func 127) #[] #[]]) (str jt)<|ca #[ay 2,.func (.func 128) #[] #[]]) (str jz)<|ca #[ay 2,.func (.func 129) #[] #[]]) (str kV)<|ca #[ay 2,.func (.func 130) #[] #[]]) (str lg)<|ca #[ay 2,.func (.func 130) #[] #[]]) (str lM)<|ca #[ay 2,.func (.func 130) #[] #[]]) (str mj)<|ca #[ay 2,.func (.func 130) #[] #[]]):=aX;have bC:=nV (k:=mj) (v:=ca #[ay 2,.func (.func 130) #[] #[]]) bB;have aC:Wk w I:=aB.trans' aI fun k hk h=>by omega
 refine p (dt (ps:= [(0,ay 2),(1,.func (.func 130) #[] #[])]) (L:= [ay 2,.func (.func 130) #[] #[]]) n9 ag<|ag)<|e<|nO nm jD (bj) ag ag ag (⟨_,ag⟩) fun J aJ aY=> ?_;have bk:dq J.heap A j5 (bZ (bZ (bZ (bZ (bZ (bZ (bZ (bZ zF (str jh)<|ca #[ay 2,.func (.func 127) #[] #[]]) (str jt)<|ca #[ay 2,.func (.func 128) #[] #[]]) (str jz)<|ca #[ay 2,.func (.func 129) #[] #[]]) (str kV)<|ca #[ay 2,.func (.func 130) #[] #[]]) (str lg)<|ca #[ay 2,.func (.func 130) #[] #[]]) (str lM)<|ca #[ay 2,.func (.func 130) #[] #[]]) (str mj)<|ca #[ay 2,.func (.func 130) #[] #[]]) (str mE)<|ca #[ay 2,.func (.func 130) #[] #[]]):=aY;have bD:=nV (k:=mE) (v:=ca #[ay 2,.func (.func 130) #[] #[]]) bC;have aD:Wk w J:=aC.trans' aJ fun k hk h=>by omega
 refine p (dt (ps:= [(0,ay 2),(1,.func (.func 131) #[] #[])]) (L:= [ay 2,.func (.func 131) #[] #[]]) n9 ag<|ag)<|e<|nO nm jD (bk) ag ag ag (⟨_,ag⟩) fun O aK aZ=> ?_;have bm:dq O.heap A j5 (bZ (bZ (bZ (bZ (bZ (bZ (bZ (bZ (bZ zF (str jh)<|ca #[ay 2,.func (.func 127) #[] #[]]) (str jt)<|ca #[ay 2,.func (.func 128) #[] #[]]) (str jz)<|ca #[ay 2,.func (.func 129) #[] #[]]) (str kV)<|ca #[ay 2,.func (.func 130) #[] #[]]) (str lg)<|ca #[ay 2,.func (.func 130) #[] #[]]) (str lM)<|ca #[ay 2,.func (.func 130) #[] #[]]) (str mj)<|ca #[ay 2,.func (.func 130) #[] #[]]) (str mE)<|ca #[ay 2,.func (.func 130) #[] #[]]) (str kU)<|ca #[ay 2,.func (.func 131) #[] #[]]):=aZ;have bE:=nV (k:=kU) (v:=ca #[ay 2,.func (.func 131) #[] #[]]) bD;have aF:Wk w O:=aD.trans' aK fun k hk h=>by omega
 refine p (dt (ps:= [(0,ay 2),(1,.func (.func 132) #[] #[])]) (L:= [ay 2,.func (.func 132) #[] #[]]) n9 ag<|ag)<|e<|nO nm jD (bm) ag ag ag (⟨_,ag⟩) fun Y aM a1=> ?_;have bn:dq Y.heap A j5 (bZ (bZ (bZ (bZ (bZ (bZ (bZ (bZ (bZ (bZ zF (str jh)<|ca #[ay 2,.func (.func 127) #[] #[]]) (str jt)<|ca #[ay 2,.func (.func 128) #[] #[]]) (str jz)<|ca #[ay 2,.func (.func 129) #[] #[]]) (str kV)<|ca #[ay 2,.func (.func 130) #[] #[]]) (str lg)<|ca #[ay 2,.func (.func 130) #[] #[]]) (str lM)<|ca #[ay 2,.func (.func 130) #[] #[]]) (str mj)<|ca #[ay 2,.func (.func 130) #[] #[]]) (str mE)<|ca #[ay 2,.func (.func 130) #[] #[]]) (str kU)<|ca #[ay 2,.func (.func 131) #[] #[]]) (str fQ)<|ca #[ay 2,.func (.func 132) #[] #[]]):=a1;have br:=nV (k:=fQ) (v:=ca #[ay 2,.func (.func 132) #[] #[]]) bE;have ao:Wk w Y:=aF.trans' aM fun k hk h=>by omega
 refine p (dt (ps:= [(0,ay 2),(1,.func (.func 133) #[] #[])]) (L:= [ay 2,.func (.func 133) #[] #[]]) n9 ag<|ag)<|e<|nO nm jD (bn) ag ag ag (⟨_,ag⟩) fun Z aN a2=> ?_;have bb:dq Z.heap A j5 (bZ (bZ (bZ (bZ (bZ (bZ (bZ (bZ (bZ (bZ (bZ zF (str jh)<|ca #[ay 2,.func (.func 127) #[] #[]]) (str jt)<|ca #[ay 2,.func (.func 128) #[] #[]]) (str jz)<|ca #[ay 2,.func (.func 129) #[] #[]]) (str kV)<|ca #[ay 2,.func (.func 130) #[] #[]]) (str lg)<|ca #[ay 2,.func (.func 130) #[] #[]]) (str lM)<|ca #[ay 2,.func (.func 130) #[] #[]]) (str mj)<|ca #[ay 2,.func (.func 130) #[] #[]]) (str mE)<|ca #[ay 2,.func (.func 130) #[] #[]]) (str kU)<|ca #[ay 2,.func (.func 131) #[] #[]]) (str fQ)<|ca #[ay 2,.func (.func 132) #[] #[]]) (str ff)<|ca #[ay 2,.func (.func 133) #[] #[]]):=a2;have bs:=nV (k:=ff) (v:=ca #[ay 2,.func (.func 133) #[] #[]]) br;have ap:Wk w Z:=ao.trans' aN fun k hk h=>by omega
 refine p (dt (ps:= [(0,ay 4),(1,.func (.func 134) #[] #[])]) (L:= [ay 4,.func (.func 134) #[] #[]]) n9 ag<|ag)<|e<|nO nm jD (bb) ag ag ag (⟨_,ag⟩) fun aa aO a3=> ?_;have bc:dq aa.heap A j5 (bZ (bZ (bZ (bZ (bZ (bZ (bZ (bZ (bZ (bZ (bZ (bZ zF (str jh)<|ca #[ay 2,.func (.func 127) #[] #[]]) (str jt)<|ca #[ay 2,.func (.func 128) #[] #[]]) (str jz)<|ca #[ay 2,.func (.func 129) #[] #[]]) (str kV)<|ca #[ay 2,.func (.func 130) #[] #[]]) (str lg)<|ca #[ay 2,.func (.func 130) #[] #[]]) (str lM)<|ca #[ay 2,.func (.func 130) #[] #[]]) (str mj)<|ca #[ay 2,.func (.func 130) #[] #[]]) (str mE)<|ca #[ay 2,.func (.func 130) #[] #[]]) (str kU)<|ca #[ay 2,.func (.func 131) #[] #[]]) (str fQ)<|ca #[ay 2,.func (.func 132) #[] #[]]) (str ff)<|ca #[ay 2,.func (.func 133) #[] #[]]) (str gx)<|ca #[ay 4,.func (.func 134) #[] #[]]):=a3;have bt:=nV (k:=gx) (v:=ca #[ay 4,.func (.func 134) #[] #[]]) bs;have aq:Wk w aa:=ap.trans' aO fun k hk h=>by omega
 refine p (dt (ps:= [(0,ay 4),(1,.func (.func 134) #[] #[])]) (L:= [ay 4,.func (.func 134) #[] #[]]) n9 ag<|ag)<|e<|nO nm jD (bc) ag ag ag (⟨_,ag⟩) fun ab aP a4=> ?_;have bd:dq ab.heap A j5 (bZ (bZ (bZ (bZ (bZ (bZ (bZ (bZ (bZ (bZ (bZ (bZ (bZ zF (str jh)<|ca #[ay 2,.func (.func 127) #[] #[]]) (str jt)<|ca #[ay 2,.func (.func 128) #[] #[]]) (str jz)<|ca #[ay 2,.func (.func 129) #[] #[]]) (str kV)<|ca #[ay 2,.func (.func 130) #[] #[]]) (str lg)<|ca #[ay 2,.func (.func 130) #[] #[]]) (str lM)<|ca #[ay 2,.func (.func 130) #[] #[]]) (str mj)<|ca #[ay 2,.func (.func 130) #[] #[]]) (str mE)<|ca #[ay 2,.func (.func 130) #[] #[]]) (str kU)<|ca #[ay 2,.func (.func 131) #[] #[]]) (str fQ)<|ca #[ay 2,.func (.func 132) #[] #[]]) (str ff)<|ca #[ay 2,.func (.func 133) #[] #[]]) (str gx)<|ca #[ay 4,.func (.func 134) #[] #[]]) (str dG)<|ca #[ay 4,.func (.func 134) #[] #[]]):=a4;have bu:=nV (k:=dG) (v:=ca #[ay 4,.func (.func 134) #[] #[]]) bt;have au:Wk w ab:=aq.trans' aP fun k hk h=>by omega
 exact p mv<|az<|aj<|rt<|ba ag<|⟨A,ag,bo,⟨_,bd,fun s=>bu s⟩,au⟩
theorem abG (J O:Nat) (w:World):
 CallsD aE 72 (bl [.pointer (some ⟨J,0,none⟩),.pointer (some ⟨O,0,none⟩)]) .returning w (fun en V w'=> ∃ v,en= .returned v∧V= .returning∧(fun w'=>Wk w w') w'):=by
 refine Jj (v:= .nilIface) func72 ag ntmps72 ag (fun aa cs I=> .inr ⟨by simp [recoverD,I],ag,ag⟩) ?_;refine p (taN E5 aeM ag)<|p mv<|p (xt ag ag)<|p (xt ag ag)<|e<|al rI fun Z ae ac G A=>e<|dy kz ag ag ag ag (A) (by simp) fun ah E ab=>p aJ<|nl<|tn<|sq fun Y C=>rg ag<|p mv<|nl<|tn<|C _ _<|cf (ag)<|aT<|f0 ag ?_;exact G.md.trans' E fun k hk h=>by omega
theorem abF (A C:Nat) (ln:Nat) (er:Int) (w:World) (h2:∃ v:Value,w.heap[A]? =some (.cells [v].toArray 88 (0,0))) (h3:∃ L:List Value,L.length=3∧w.heap[C]? =some (.cells L.toArray 45 (0,0))) (ab:A≠C):
 CallsD aE 72 (bl [.pointer (some ⟨A,0,none⟩),.pointer (some ⟨C,0,none⟩)]) (.panicking<|j0 45 ln er) w (fun en aw w'=> ∃ v,en= .returned v∧aw=(.panicking [{v:= .iface 45 (.agg [.int .i64 1,.int .i64 (ln:Nat),.int .i64 er].toArray),recovered:=true}])∧(fun w'=>w'.heap[A]? =some (.cells [.pointer none].toArray 88 (0,0))∧w'.heap[C]? =some (.cells [.int .i64 1,.int .i64 (ln:Nat),.int .i64 er].toArray 45 (0,0))∧Md (fun k=>k=A∨k=C) w w') w'):=by
 obtain ⟨v2,h2⟩:=h2;obtain ⟨Y,an,h3⟩:=h3;have aD:=(dT.1 h2).1;have aF:=(dT.1 h3).1;refine Jj (v:= .iface 45<|.agg [.int .i64 1,.int .i64 (ln:Nat),.int .i64 er].toArray) func72 ag ntmps72 ag (fun aA cs aq=> .inl<|by simp [recoverD,aq,j0]) ?_;refine p (taI E5 ag)<|p mv<|p (xt ag ag)<|p (xt ag ag)<|e<|al rI fun ac aG aB O ah=>e<|dy kz ag ag ag ag (ah) (by simp) fun E G ae=> ?_;have ak:bX E.heap ac [.int .i64 1,.int .i64 (ln:Nat),.int .i64 er]:=ae;refine p aJ<|nl<|tn<|sq fun az am=>rg ag<|p mv<|nl<|tn<|am _ _<|ct (ag) ?_;have V:(fun w'=>Md (fun k=>k=A∨k=C) E w') E.drew:=(Md.refl _ _).drew;refine cj (fun w'=>Md (fun k=>k=A∨k=C) E w') ag wide V<|hp 0 ag au (fun w' ao=>dp l7 ag (ag) fun j aC=>bX.bF (Md.B ao ak fun h=>by omega) j) V<|he 1 ag au<|dB Du ag ag (v:= .pointer none) ag (G.aW (Wk.aW O.md h2) fun h=>by omega) (by show 0 < 1; decide) fun ax I ai=> ?_;have aa:(fun w'=>Md (fun k=>k=A∨k=C) E w') ax:=V.trans' I fun _ _ h=> .inl h;refine ⟨aa,?_⟩;refine he 2 ag au<|gS kz ag ag ag ag (I.aW (G.aW (Wk.aW O.md h3) fun h=>by omega) fun h=>ab h.symm) (by rw [an]; decide) fun ay J Z=> ?_;have ap:(fun w'=>Md (fun k=>k=A∨k=C) E w') ay:=aa.trans' J fun _ _ h=> .inr h;refine ⟨ap,?_⟩;refine hn au<|f0 ag ?_;have av:Y.take 0 ++ [gY .i64 1,.int .i64 (ln:Nat),.int .i64 er]++Y.drop (0 +3)= [gY .i64 1,.int .i64 (ln:Nat),.int .i64 er]:=by rw [iS aj]; rfl
 rw [av] at Z;exact ⟨J.aW ai ab,Z,(((O.md.mono fun _ _ h=>h.elim).trans' G fun k hk h=>by omega).trans' (jk I) fun _ _ h=> .inl h).trans' J fun _ _ h=> .inr h⟩
theorem NV (A C:Nat) (w:World):(invoke (.fn (.func 72) #[a6 A,a6 C]) #[]).run aE w= .ok (.enter 72 #[a6 A,a6 C]) w:=by
 have h:=Ue #[a6 A,a6 C] w;simp [invoke,h]
theorem zS {n:Nat} {D:List Deferred} {G:List Nat} {σ:Nat→Value} {t:Nat} (h:t < n):ev ⟨n,D,G,none⟩ σ (.tmp t)=σ t:=by
 show cond (Nat.blt t n) (σ t) undef=_;rw [show Nat.blt t n=true from by simpa using h]; rfl
theorem abJ {n:Nat} {G:List Nat} {fn:Func} {R:Value→World→Prop} {σ:Nat→Value} {w:World} {A C ln:Nat} {er:Int} (V:fn.results= #[.cell 2 88,.cell 3 45]) (aa:3 < n) (Y:σ 2= .pointer (some ⟨A,0,none⟩)) (Z:σ 3= .pointer (some ⟨C,0,none⟩)) (h2:∃ v:Value,w.heap[A]? =some (.cells [v].toArray 88 (0,0))) (h3:∃ L:List Value,L.length=3∧w.heap[C]? =some (.cells L.toArray 45 (0,0))) (O:A≠C)
 (E:∀ w',Md (fun k=>k=A∨k=C) w w'→R (.tuple #[.pointer none,.agg [.int .i64 1,.int .i64 (ln:Nat),.int .i64 er].toArray]) w'):qb ⟨n,[{target:= .fn (.func 72) #[.pointer (some ⟨A,0,none⟩),.pointer (some ⟨C,0,none⟩)],args:= #[]}],G,none⟩ (rX aE fn R) (.panic<|j0 45 ln er) σ w:=by
 refine sj (NV A C w) (abF A C ln er w h2 h3 O) ?_;rintro w' ⟨I,J,hm⟩;exact ⟨_,AY V (oU<|FT ((zS aj).trans Y) gP<|(bo I).trans ag) (oU<|eo (cs:= [.int .i64 1,.int .i64 (ln:Nat),.int .i64 er]) ((zS aj).trans Z) l7 ag fun j _=>by rw [iV,bo J]; simp),E w' hm⟩
theorem abK {n:Nat} {G:List Nat} {fn:Func} {R:Value→World→Prop} {σ:Nat→Value} {w:World} {A C:Nat} {v:Value} {L:List Value} (V:fn.results= #[.cell 2 88,.cell 3 45]) (aa:3 < n) (Y:σ 2= .pointer (some ⟨A,0,none⟩)) (Z:σ 3= .pointer (some ⟨C,0,none⟩)) (h2:w.heap[A]? =some (.cells [v].toArray 88 (0,0))) (h3:w.heap[C]? =some (.cells L.toArray 45 (0,0))) (E:L.length=3)
 (I:∀ w',Wk w w'→R (.tuple #[v,.agg L.toArray]) w'):qb ⟨n,[{target:= .fn (.func 72) #[.pointer (some ⟨A,0,none⟩),.pointer (some ⟨C,0,none⟩)],args:= #[]}],G,none⟩ (rX aE fn R) .ret σ w:=by
 refine Xk (NV A C w) (abG A C w) ?_;intro w' hm;have J:=Wk.aW hm h2;have O:=Wk.aW hm h3;exact ⟨_,AY V (oU<|FT ((zS aj).trans Y) gP<|(bo J).trans ag) (oU<|eo (cs:=L) ((zS aj).trans Z) l7 E fun j _=>by rw [iV,bo O]; simp),I w' hm⟩
end Go.Hb
section
namespace Go.Hb
open Go.Hb.pc
theorem YM (B:Nat) (H:dI) (F:aX) (rows:List Rw) (ln:Nat) (seen:List Tx) (r:List Tx) (A:Nat) (ar:Option Addr) (cr:Nat) (w:World) (C:St w B H F rows ln seen) (E:Tg w A 9 r.length (.slice ar r.length cr) (r.map str)) (G:∀ x∈r,x.length≤70000) (hw:r.length=width (r.getD 0 [])) (O:k6 F seen) (J:width (r.getD 0 [])=2→r.getD 0 []∉seen) (I:F.dF.length+F.aliases.length+F.bG.length+F.rules.length+rows.length < 70000) (hk:r.getD 0 []=jh):gv aE 127 (bl [.pointer (some ⟨H.rb,0,none⟩),.slice ar r.length cr]) w (kf B H seen (cW H.eof F seen rows ln r) w) (ke B H (cW H.eof F seen rows ln r) w):=by
 have h:=ZT B H F rows ln seen r A ar cr w C E (by rw [hw,hk]; decide) G;rw [show cW H.eof F seen rows ln r=kW F seen rows ln r from by unfold cW; rw [hk]; rfl];exact h
theorem YU (B:Nat) (H:dI) (F:aX) (rows:List Rw) (ln:Nat) (seen:List Tx) (r:List Tx) (A:Nat) (ar:Option Addr) (cr:Nat) (w:World) (C:St w B H F rows ln seen) (E:Tg w A 9 r.length (.slice ar r.length cr) (r.map str)) (G:∀ x∈r,x.length≤70000) (hw:r.length=width (r.getD 0 [])) (O:k6 F seen) (J:width (r.getD 0 [])=2→r.getD 0 []∉seen) (I:F.dF.length+F.aliases.length+F.bG.length+F.rules.length+rows.length < 70000) (hk:r.getD 0 []=jt):gv aE 128 (bl [.pointer (some ⟨H.rb,0,none⟩),.slice ar r.length cr]) w (kf B H seen (cW H.eof F seen rows ln r) w) (ke B H (cW H.eof F seen rows ln r) w):=by
 have h:=UB B H F rows ln seen r A ar cr w C E (by rw [hw,hk]; decide) G;rw [show cW H.eof F seen rows ln r=nb F rows ln r from by unfold cW; rw [hk]; rfl];exact h
theorem YW (B:Nat) (H:dI) (F:aX) (rows:List Rw) (ln:Nat) (seen:List Tx) (r:List Tx) (A:Nat) (ar:Option Addr) (cr:Nat) (w:World) (C:St w B H F rows ln seen) (E:Tg w A 9 r.length (.slice ar r.length cr) (r.map str)) (G:∀ x∈r,x.length≤70000) (hw:r.length=width (r.getD 0 [])) (O:k6 F seen) (J:width (r.getD 0 [])=2→r.getD 0 []∉seen) (I:F.dF.length+F.aliases.length+F.bG.length+F.rules.length+rows.length < 70000) (hk:r.getD 0 []=jz):gv aE 129 (bl [.pointer (some ⟨H.rb,0,none⟩),.slice ar r.length cr]) w (kf B H seen (cW H.eof F seen rows ln r) w) (ke B H (cW H.eof F seen rows ln r) w):=by
 have h:=adT B H F rows ln seen r A ar cr w C E (by rw [hw,hk]; decide) G;rw [show cW H.eof F seen rows ln r=nk F rows ln r from by unfold cW; rw [hk]; rfl];exact h
theorem YQ (B:Nat) (H:dI) (F:aX) (rows:List Rw) (ln:Nat) (seen:List Tx) (r:List Tx) (A:Nat) (ar:Option Addr) (cr:Nat) (w:World) (C:St w B H F rows ln seen) (E:Tg w A 9 r.length (.slice ar r.length cr) (r.map str)) (I:∀ x∈r,x.length≤70000) (hw:r.length=width (r.getD 0 [])) (J:k6 F seen) (G:width (r.getD 0 [])=2→r.getD 0 []∉seen) (O:F.dF.length+F.aliases.length+F.bG.length+F.rules.length+rows.length < 70000) (hk:r.getD 0 []=kV):gv aE 130 (bl [.pointer (some ⟨H.rb,0,none⟩),.slice ar r.length cr]) w (kf B H seen (cW H.eof F seen rows ln r) w) (ke B H (cW H.eof F seen rows ln r) w):=by
 have h:=yl B H F rows ln seen r A ar cr w C E (by rw [hw,hk]; decide) I (by rw [hk]; decide)<|J _ (by rw [hk]; decide)<|G<|by rw [hk]; decide
 rw [show cW H.eof F seen rows ln r=kF F rows ln r from by unfold cW; rw [hk]; rfl];exact h
theorem YN (B:Nat) (H:dI) (F:aX) (rows:List Rw) (ln:Nat) (seen:List Tx) (r:List Tx) (A:Nat) (ar:Option Addr) (cr:Nat) (w:World) (C:St w B H F rows ln seen) (E:Tg w A 9 r.length (.slice ar r.length cr) (r.map str)) (I:∀ x∈r,x.length≤70000) (hw:r.length=width (r.getD 0 [])) (J:k6 F seen) (G:width (r.getD 0 [])=2→r.getD 0 []∉seen) (O:F.dF.length+F.aliases.length+F.bG.length+F.rules.length+rows.length < 70000) (hk:r.getD 0 []=lg):gv aE 130 (bl [.pointer (some ⟨H.rb,0,none⟩),.slice ar r.length cr]) w (kf B H seen (cW H.eof F seen rows ln r) w) (ke B H (cW H.eof F seen rows ln r) w):=by
 have h:=yl B H F rows ln seen r A ar cr w C E (by rw [hw,hk]; decide) I (by rw [hk]; decide)<|J _ (by rw [hk]; decide)<|G<|by rw [hk]; decide
 rw [show cW H.eof F seen rows ln r=kF F rows ln r from by unfold cW; rw [hk]; rfl];exact h
theorem YO (B:Nat) (H:dI) (F:aX) (rows:List Rw) (ln:Nat) (seen:List Tx) (r:List Tx) (A:Nat) (ar:Option Addr) (cr:Nat) (w:World) (C:St w B H F rows ln seen) (E:Tg w A 9 r.length (.slice ar r.length cr) (r.map str)) (I:∀ x∈r,x.length≤70000) (hw:r.length=width (r.getD 0 [])) (J:k6 F seen) (G:width (r.getD 0 [])=2→r.getD 0 []∉seen) (O:F.dF.length+F.aliases.length+F.bG.length+F.rules.length+rows.length < 70000) (hk:r.getD 0 []=lM):gv aE 130 (bl [.pointer (some ⟨H.rb,0,none⟩),.slice ar r.length cr]) w (kf B H seen (cW H.eof F seen rows ln r) w) (ke B H (cW H.eof F seen rows ln r) w):=by
 have h:=yl B H F rows ln seen r A ar cr w C E (by rw [hw,hk]; decide) I (by rw [hk]; decide)<|J _ (by rw [hk]; decide)<|G<|by rw [hk]; decide
 rw [show cW H.eof F seen rows ln r=kF F rows ln r from by unfold cW; rw [hk]; rfl];exact h
theorem YL (B:Nat) (H:dI) (F:aX) (rows:List Rw) (ln:Nat) (seen:List Tx) (r:List Tx) (A:Nat) (ar:Option Addr) (cr:Nat) (w:World) (C:St w B H F rows ln seen) (E:Tg w A 9 r.length (.slice ar r.length cr) (r.map str)) (I:∀ x∈r,x.length≤70000) (hw:r.length=width (r.getD 0 [])) (J:k6 F seen) (G:width (r.getD 0 [])=2→r.getD 0 []∉seen) (O:F.dF.length+F.aliases.length+F.bG.length+F.rules.length+rows.length < 70000) (hk:r.getD 0 []=mj):gv aE 130 (bl [.pointer (some ⟨H.rb,0,none⟩),.slice ar r.length cr]) w (kf B H seen (cW H.eof F seen rows ln r) w) (ke B H (cW H.eof F seen rows ln r) w):=by
 have h:=yl B H F rows ln seen r A ar cr w C E (by rw [hw,hk]; decide) I (by rw [hk]; decide)<|J _ (by rw [hk]; decide)<|G<|by rw [hk]; decide
 rw [show cW H.eof F seen rows ln r=kF F rows ln r from by unfold cW; rw [hk]; rfl];exact h
theorem YR (B:Nat) (H:dI) (F:aX) (rows:List Rw) (ln:Nat) (seen:List Tx) (r:List Tx) (A:Nat) (ar:Option Addr) (cr:Nat) (w:World) (C:St w B H F rows ln seen) (E:Tg w A 9 r.length (.slice ar r.length cr) (r.map str)) (I:∀ x∈r,x.length≤70000) (hw:r.length=width (r.getD 0 [])) (J:k6 F seen) (G:width (r.getD 0 [])=2→r.getD 0 []∉seen) (O:F.dF.length+F.aliases.length+F.bG.length+F.rules.length+rows.length < 70000) (hk:r.getD 0 []=mE):gv aE 130 (bl [.pointer (some ⟨H.rb,0,none⟩),.slice ar r.length cr]) w (kf B H seen (cW H.eof F seen rows ln r) w) (ke B H (cW H.eof F seen rows ln r) w):=by
 have h:=yl B H F rows ln seen r A ar cr w C E (by rw [hw,hk]; decide) I (by rw [hk]; decide)<|J _ (by rw [hk]; decide)<|G<|by rw [hk]; decide
 rw [show cW H.eof F seen rows ln r=kF F rows ln r from by unfold cW; rw [hk]; rfl];exact h
theorem YP (B:Nat) (H:dI) (F:aX) (rows:List Rw) (ln:Nat) (seen:List Tx) (r:List Tx) (A:Nat) (ar:Option Addr) (cr:Nat) (w:World) (C:St w B H F rows ln seen) (E:Tg w A 9 r.length (.slice ar r.length cr) (r.map str)) (G:∀ x∈r,x.length≤70000) (hw:r.length=width (r.getD 0 [])) (O:k6 F seen) (J:width (r.getD 0 [])=2→r.getD 0 []∉seen) (I:F.dF.length+F.aliases.length+F.bG.length+F.rules.length+rows.length < 70000) (hk:r.getD 0 []=kU):gv aE 131 (bl [.pointer (some ⟨H.rb,0,none⟩),.slice ar r.length cr]) w (kf B H seen (cW H.eof F seen rows ln r) w) (ke B H (cW H.eof F seen rows ln r) w):=by
 have h:=ZY B H F rows ln seen r A ar cr w C E (by rw [hw,hk]; decide) G;rw [show cW H.eof F seen rows ln r=lj F rows ln r from by unfold cW; rw [hk]; rfl];exact h
theorem YT (B:Nat) (H:dI) (F:aX) (rows:List Rw) (ln:Nat) (seen:List Tx) (r:List Tx) (A:Nat) (ar:Option Addr) (cr:Nat) (w:World) (C:St w B H F rows ln seen) (E:Tg w A 9 r.length (.slice ar r.length cr) (r.map str)) (G:∀ x∈r,x.length≤70000) (hw:r.length=width (r.getD 0 [])) (O:k6 F seen) (J:width (r.getD 0 [])=2→r.getD 0 []∉seen) (I:F.dF.length+F.aliases.length+F.bG.length+F.rules.length+rows.length < 70000) (hk:r.getD 0 []=fQ):gv aE 132 (bl [.pointer (some ⟨H.rb,0,none⟩),.slice ar r.length cr]) w (kf B H seen (cW H.eof F seen rows ln r) w) (ke B H (cW H.eof F seen rows ln r) w):=by
 have h:=abS B H F rows ln seen r A ar cr w C E (by rw [hw,hk]; decide) G;rw [show cW H.eof F seen rows ln r=kE H.eof F rows ln r from by unfold cW; rw [hk]; rfl];exact h
theorem YK (B:Nat) (H:dI) (F:aX) (rows:List Rw) (ln:Nat) (seen:List Tx) (r:List Tx) (A:Nat) (ar:Option Addr) (cr:Nat) (w:World) (C:St w B H F rows ln seen) (E:Tg w A 9 r.length (.slice ar r.length cr) (r.map str)) (G:∀ x∈r,x.length≤70000) (hw:r.length=width (r.getD 0 [])) (O:k6 F seen) (J:width (r.getD 0 [])=2→r.getD 0 []∉seen) (I:F.dF.length+F.aliases.length+F.bG.length+F.rules.length+rows.length < 70000) (hk:r.getD 0 []=ff):gv aE 133 (bl [.pointer (some ⟨H.rb,0,none⟩),.slice ar r.length cr]) w (kf B H seen (cW H.eof F seen rows ln r) w) (ke B H (cW H.eof F seen rows ln r) w):=by
 have h:=RH B H F rows ln seen r A ar cr w C E (by rw [hw,hk]; decide) G;rw [show cW H.eof F seen rows ln r=kn H.eof F seen rows ln r from by unfold cW; rw [hk]; rfl];exact h
theorem YS (B:Nat) (H:dI) (F:aX) (rows:List Rw) (ln:Nat) (seen:List Tx) (r:List Tx) (A:Nat) (ar:Option Addr) (cr:Nat) (w:World) (C:St w B H F rows ln seen) (E:Tg w A 9 r.length (.slice ar r.length cr) (r.map str)) (I:∀ x∈r,x.length≤70000) (hw:r.length=width (r.getD 0 [])) (O:k6 F seen) (J:width (r.getD 0 [])=2→r.getD 0 []∉seen) (G:F.dF.length+F.aliases.length+F.bG.length+F.rules.length+rows.length < 70000) (hk:r.getD 0 []=gx):gv aE 134 (bl [.pointer (some ⟨H.rb,0,none⟩),.slice ar r.length cr]) w (kf B H seen (cW H.eof F seen rows ln r) w) (ke B H (cW H.eof F seen rows ln r) w):=by
 have h:=Js B H F rows ln seen r A ar cr w C E (by rw [hw,hk]; decide) I G;rw [show cW H.eof F seen rows ln r=iu H.eof F rows ln r from by unfold cW; rw [hk]; rfl];exact h
theorem YV (B:Nat) (H:dI) (F:aX) (rows:List Rw) (ln:Nat) (seen:List Tx) (r:List Tx) (A:Nat) (ar:Option Addr) (cr:Nat) (w:World) (C:St w B H F rows ln seen) (E:Tg w A 9 r.length (.slice ar r.length cr) (r.map str)) (I:∀ x∈r,x.length≤70000) (hw:r.length=width (r.getD 0 [])) (O:k6 F seen) (J:width (r.getD 0 [])=2→r.getD 0 []∉seen) (G:F.dF.length+F.aliases.length+F.bG.length+F.rules.length+rows.length < 70000) (hk:r.getD 0 []=dG):gv aE 134 (bl [.pointer (some ⟨H.rb,0,none⟩),.slice ar r.length cr]) w (kf B H seen (cW H.eof F seen rows ln r) w) (ke B H (cW H.eof F seen rows ln r) w):=by
 have h:=Js B H F rows ln seen r A ar cr w C E (by rw [hw,hk]; decide) I G;rw [show cW H.eof F seen rows ln r=iu H.eof F rows ln r from by unfold cW; rw [hk]; rfl];exact h
theorem Ml (B:Nat) (H:dI) (F:aX) (rows:List Rw) (ln:Nat) (seen:List Tx) (r:List Tx) (C:Nat) (ar:Option Addr) (cr:Nat) (w:World) (E:St w B H F rows ln seen) (G:Tg w C 9 r.length (.slice ar r.length cr) (r.map str)) (O:∀ x∈r,x.length≤70000) (hw:r.length=width (r.getD 0 [])) (V:k6 F seen) (J:width (r.getD 0 [])=2→r.getD 0 []∉seen) (I:F.dF.length+F.aliases.length+F.bG.length+F.rules.length+rows.length < 70000) {v:Value} (A:js (r.getD 0 [])=some v):∃ f:Nat,v= .agg [.int .i64 (width (r.getD 0 []):Nat),.func (.func f) #[] #[]].toArray∧bu aE f∧gv aE f (bl [.pointer (some ⟨H.rb,0,none⟩),.slice ar r.length cr]) w (kf B H seen (cW H.eof F seen rows ln r) w) (ke B H (cW H.eof F seen rows ln r) w):=by
 unfold js at A;by_cases hk:r.getD 0 []=dG
 · rw [if_pos hk] at A; cases A; exact ⟨_,by rw [hk]; rfl,Iq,YV B H F rows ln seen r C ar cr w E G O hw V J I hk⟩
 · rw [if_neg hk] at A; clear hk;by_cases hk:r.getD 0 []=gx
   · rw [if_pos hk] at A; cases A; exact ⟨_,by rw [hk]; rfl,Iq,YS B H F rows ln seen r C ar cr w E G O hw V J I hk⟩
   · rw [if_neg hk] at A; clear hk;by_cases hk:r.getD 0 []=ff
     · rw [if_pos hk] at A; cases A; exact ⟨_,by rw [hk]; rfl,SH,YK B H F rows ln seen r C ar cr w E G O hw V J I hk⟩
     · rw [if_neg hk] at A; clear hk;by_cases hk:r.getD 0 []=fQ
       · rw [if_pos hk] at A; cases A; exact ⟨_,by rw [hk]; rfl,SG,YT B H F rows ln seen r C ar cr w E G O hw V J I hk⟩
       · rw [if_neg hk] at A; clear hk;by_cases hk:r.getD 0 []=kU
         · rw [if_pos hk] at A; cases A; exact ⟨_,by rw [hk]; rfl,SF,YP B H F rows ln seen r C ar cr w E G O hw V J I hk⟩
         · rw [if_neg hk] at A; clear hk;by_cases hk:r.getD 0 []=mE
           · rw [if_pos hk] at A; cases A; exact ⟨_,by rw [hk]; rfl,xi,YR B H F rows ln seen r C ar cr w E G O hw V J I hk⟩
           · rw [if_neg hk] at A; clear hk;by_cases hk:r.getD 0 []=mj
             · rw [if_pos hk] at A; cases A; exact ⟨_,by rw [hk]; rfl,xi,YL B H F rows ln seen r C ar cr w E G O hw V J I hk⟩
             · rw [if_neg hk] at A; clear hk;by_cases hk:r.getD 0 []=lM
               · rw [if_pos hk] at A; cases A; exact ⟨_,by rw [hk]; rfl,xi,YO B H F rows ln seen r C ar cr w E G O hw V J I hk⟩
               · rw [if_neg hk] at A; clear hk;by_cases hk:r.getD 0 []=lg
                 · rw [if_pos hk] at A; cases A; exact ⟨_,by rw [hk]; rfl,xi,YN B H F rows ln seen r C ar cr w E G O hw V J I hk⟩
                 · rw [if_neg hk] at A; clear hk;by_cases hk:r.getD 0 []=kV
                   · rw [if_pos hk] at A; cases A; exact ⟨_,by rw [hk]; rfl,xi,YQ B H F rows ln seen r C ar cr w E G O hw V J I hk⟩
                   · rw [if_neg hk] at A; clear hk;by_cases hk:r.getD 0 []=jz
                     · rw [if_pos hk] at A; cases A; exact ⟨_,by rw [hk]; rfl,SE,YW B H F rows ln seen r C ar cr w E G O hw V J I hk⟩
                     · rw [if_neg hk] at A; clear hk;by_cases hk:r.getD 0 []=jt
                       · rw [if_pos hk] at A; cases A; exact ⟨_,by rw [hk]; rfl,SD,YU B H F rows ln seen r C ar cr w E G O hw V J I hk⟩
                       · rw [if_neg hk] at A; clear hk;by_cases hk:r.getD 0 []=jh
                         · rw [if_pos hk] at A; cases A; exact ⟨_,by rw [hk]; rfl,SC,YM B H F rows ln seen r C ar cr w E G O hw V J I hk⟩
                         · rw [if_neg hk] at A; clear hk;cases A
theorem Mi {s:Tx} (A:js s=none):width s=0:=by
 unfold js at A;by_cases ac:s=dG
 · rw [if_pos ac] at A; cases A
 · rw [if_neg ac] at A;by_cases Z:s=gx
   · rw [if_pos Z] at A; cases A
   · rw [if_neg Z] at A;by_cases C:s=ff
     · rw [if_pos C] at A; cases A
     · rw [if_neg C] at A;by_cases aa:s=fQ
       · rw [if_pos aa] at A; cases A
       · rw [if_neg aa] at A;by_cases O:s=kU
         · rw [if_pos O] at A; cases A
         · rw [if_neg O] at A;by_cases Y:s=mE
           · rw [if_pos Y] at A; cases A
           · rw [if_neg Y] at A;by_cases E:s=mj
             · rw [if_pos E] at A; cases A
             · rw [if_neg E] at A;by_cases J:s=lM
               · rw [if_pos J] at A; cases A
               · rw [if_neg J] at A;by_cases I:s=lg
                 · rw [if_pos I] at A; cases A
                 · rw [if_neg I] at A;by_cases V:s=kV
                   · rw [if_pos V] at A; cases A
                   · rw [if_neg V] at A;by_cases ae:s=jz
                     · rw [if_pos ae] at A; cases A
                     · rw [if_neg ae] at A;by_cases ab:s=jt
                       · rw [if_pos ab] at A; cases A
                       · rw [if_neg ab] at A;by_cases G:s=jh
                         · rw [if_pos G] at A; cases A
                         · rw [if_neg G] at A;unfold width eF; simp [G,ab,ae,V,I,J,E,Y,O,aa,C,Z,ac]
theorem EA (s:Tx):js s=none∨∃ (wd f:Nat),js s=some (ca #[.int .i64 (wd:Nat),.func (.func f) #[] #[]])∧width s=wd∧wd≠0:=by
 by_cases A:s=dG
 · exact .inr ⟨4,134,by unfold js; rw [if_pos A],by rw [A]; decide,aM⟩
 by_cases C:s=gx
 · exact .inr ⟨4,134,by unfold js; rw [if_neg A,if_pos C],by rw [C]; decide,aM⟩
 by_cases E:s=ff
 · exact .inr ⟨2,133,by unfold js; rw [if_neg A,if_neg C,if_pos E],by rw [E]; decide,aM⟩
 by_cases G:s=fQ
 · exact .inr ⟨2,132,by unfold js; rw [if_neg A,if_neg C,if_neg E,if_pos G],by rw [G]; decide,aM⟩
 by_cases I:s=kU
 · exact .inr ⟨2,131,by unfold js; rw [if_neg A,if_neg C,if_neg E,if_neg G,if_pos I],by rw [I]; decide,aM⟩
 by_cases J:s=mE
 · exact .inr ⟨2,130,by unfold js; rw [if_neg A,if_neg C,if_neg E,if_neg G,if_neg I,if_pos J],by rw [J]; decide,aM⟩
 by_cases O:s=mj
 · exact .inr ⟨2,130,by unfold js; rw [if_neg A,if_neg C,if_neg E,if_neg G,if_neg I,if_neg J,if_pos O],by rw [O]; decide,aM⟩
 by_cases V:s=lM
 · exact .inr ⟨2,130,by unfold js; rw [if_neg A,if_neg C,if_neg E,if_neg G,if_neg I,if_neg J,if_neg O,if_pos V],by rw [V]; decide,aM⟩
 by_cases Y:s=lg
 · exact .inr ⟨2,130,by unfold js; rw [if_neg A,if_neg C,if_neg E,if_neg G,if_neg I,if_neg J,if_neg O,if_neg V,if_pos Y],by rw [Y]; decide,aM⟩
 by_cases Z:s=kV
 · exact .inr ⟨2,130,by unfold js; rw [if_neg A,if_neg C,if_neg E,if_neg G,if_neg I,if_neg J,if_neg O,if_neg V,if_neg Y,if_pos Z],by rw [Z]; decide,aM⟩
 by_cases aa:s=jz
 · exact .inr ⟨2,129,by unfold js; rw [if_neg A,if_neg C,if_neg E,if_neg G,if_neg I,if_neg J,if_neg O,if_neg V,if_neg Y,if_neg Z,if_pos aa],by rw [aa]; decide,aM⟩
 by_cases ab:s=jt
 · exact .inr ⟨2,128,by unfold js; rw [if_neg A,if_neg C,if_neg E,if_neg G,if_neg I,if_neg J,if_neg O,if_neg V,if_neg Y,if_neg Z,if_neg aa,if_pos ab],by rw [ab]; decide,aM⟩
 by_cases ac:s=jh
 · exact .inr ⟨2,127,by unfold js; rw [if_neg A,if_neg C,if_neg E,if_neg G,if_neg I,if_neg J,if_neg O,if_neg V,if_neg Y,if_neg Z,if_neg aa,if_neg ab,if_pos ac],by rw [ac]; decide,aM⟩
 refine .inl ?_;unfold js;rw [if_neg A,if_neg C,if_neg E,if_neg G,if_neg I,if_neg J,if_neg O,if_neg V,if_neg Y,if_neg Z,if_neg aa,if_neg ab,if_neg ac]
end Go.Hb
end
namespace Go.Hb
theorem Yi {α:Type} {l:List α} {i:Nat} {d:α} (h:i < l.length):l.getD i d∈l:=by
 rw [da,cz h]; exact List.getElem_mem h
def kD (n:Nat) (A:List (List UInt8)):List (Nat×List UInt8):=(A.zipIdx n).map fun q=>(q.2,q.1)
theorem aaS (n:Nat) (l:List UInt8) (A:List (List UInt8)):kD n (l::A)=(n,l)::kD (n+1) A:=by simp [kD,List.zipIdx_cons]
theorem aaT (n:Nat):kD n []= []:=rfl
theorem Ff (n:Nat) (A:List (List UInt8)):(kD n A).map o8=A:=by
 unfold kD; rw [List.map_map]; exact List.zipIdx_map_fst n A
theorem Nv (n:Nat) (A:List (List UInt8)):(kD n A).length=A.length:=by simp [kD]
def zO (x:Nat×List UInt8):Array Value:= #[.int .i64 x.1,str x.2]
theorem Fe {A:List (List UInt8)} {n:Nat} {pre:List (Nat×List UInt8)} {x:Nat×List UInt8} {rest:List (Nat×List UInt8)} (h:kD n A=pre++x::rest):pre.length < A.length∧x.1=n+pre.length∧A=pre.map o8++x.2::rest.map o8:=by
 have h1:=congrArg jV h;rw [Nv,bP,db] at h1;have h2:=congrArg (List.map o8) h;rw [Ff,fZ,List.map_cons] at h2;refine ⟨aj,?_,h2⟩;have h3:=congrArg (fun l=>l[pre.length]?) h;simp only [kD,gi,List.getElem?_zipIdx,oh (cU _),Nat.sub_self,wv] at h3;cases h4:A[pre.length]? with
 | none=>rw [h4] at h3; cases h3
 | some q=>rw [h4] at h3; cases h3; rfl
theorem Kl (s:List UInt8) (w:World):
 bw aE 125 (bl [str s]) w (fun v w'=> ∃ b,v= .func (.func 189) #[] #[a6 b]∧w.heap.size≤b∧w'.heap[b]? =some (.cells [str s].toArray 9 (0,0))∧Wk w w'):=by
 exact enter func125 ag ntmps125 ag<|ak fun A=>e<|CF ag ag fun E O J I G=>az<|A<|ak fun C=>p M9<|az<|C<|rt<|ba ag<|⟨E,ag,aj,G,I.md⟩
theorem WM (s:List UInt8) (b:Nat) (hs:s.length≤65536) (l:Nat) (A:List (Nat×List UInt8)→World→Prop) (w:World) (Y:A [] w) (aC:∀ pre W,A pre W→W.heap[b]? =some (.cells [str s].toArray 9 (0,0))) (cj:∀ pre C O,A pre C→Wk C O→A pre O) (aI:∀ pre x rest C,(kD 1<|bU s)=pre++x::rest→A pre C→YieldAt Fence.wide 0 aE l (zO x) C fun e W'=>e= .returned (.bool true)∧A (pre++ [x]) W'):
 bw aE 189 (bl [.func (.yield l) #[] #[],a6 b]) w (fun v w'=>A (kD 1<|bU s) w'):=by
 have aa:=aC _ _ Y;refine enter func189 ag ntmps189 ag<|aH fun ac=>ak fun ah=>p (ld bW ag<|(bo aa).trans ag)<|p (c8 u9 ag ag)<|p (gt ag ag)<|nl<|ah<|cd ag (fun h=>absurd h aj) fun aL=> ?_;refine aT<|ac<|ak fun ai=>p (ld bW ag<|(bo aa).trans ag)<|e<|cl Iu (Pa s sG _ aj aM) ag ?_;rintro v12 aS ⟨rfl,au⟩;refine az<|ai<|ak fun al=>az<|al<|aW<|lp (fun V J I=> ∃ (r:List UInt8) (pre:List (Nat×List UInt8)),(r.length≤s.length)∧((kD 1<|bU s)=pre++kD (pre.length+1) (gR [] r))∧(A pre I)∧(pre.length≤s.length)∧(J 4=ay (pre.length+1))∧(Sl J [(0,.func (.yield l) #[] #[]),(3,str r)])∧(r.length=V)) _ ⟨lT s,[],(BB s),ag,(cj _ _ _ Y au),(Nat.zero_le _),(iv<|by first | rfl | (rw [bP]; rfl)),ag,ag⟩ ?_;rintro V J I ⟨r,pre,aP,ab,Z,aN,aG,aF,rfl⟩;refine bH aF<|fx 4 aG<|aH fun am=>ak fun an=>aw (str r)<|p (nR ag ag)<|nl<|an<|cd ag (fun E=> ?_) fun E=> ?_;have G:(kD 1<|bU s)=pre++(pre.length+1,ko (nG 10 r))::kD (pre.length+2) (gR []<|pH 10 r):=by rw [ab,aah E,aaS]
 have aO:=VP (c:=10) E;have aK:=VM 10 r;refine aT<|am<|aH fun ao=>aW<|ak fun ap=>aw (str r)<|e<|cl S6 (VQ r 10 _ aj) ag ?_;rintro aQ aU ⟨rfl,av⟩;refine p mv<|p (xt ag ag)<|p (xt ag ag)<|p (xt ag ag)<|p aJ<|p aJ<|p aJ<|nl<|ap<|ak fun aq=>p mv<|az<|aq<|aH fun ae=> ?_;refine rgy ?_;refine py ag (a8 (.func (.yield l) #[] #[]) ag)<|py ag (a8 (ay<|pre.length+1) ag)<|py ag mv<|ey ag<|cl It (adS (nG 10 r) _ aj) ag ?_;rintro aR aV ⟨rfl,ax⟩;have aA:=cj _ _ _ Z<|Md.trans av ax;refine ylr ag ag (aI pre (pre.length+1,ko (nG 10 r)) _ _ G aA) fun aX aB=> ?_;refine py ag (no ag)<|nly ?_;refine ae<|cf (ag)<|aT<|bn<|ao<|rg ag<|aw (ay<|pre.length+1)<|p (bJ ((pre.length+2:Nat):Int) ag ag<|bp aj aj) ?_;exact p aJ<|nl<|tn<|⟨_,aj,pH 10 r,pre++ [(pre.length+1,ko (nG 10 r))],aj,(by rw [G,e6,bP]; rfl),aB,(by have h1:=Fe G; have h2:=pS s; rw [bP,fE]; omega),(iv<|by first | rfl | (rw [bP]; rfl)),ag,ag⟩
 refine ext<|bj<|bj<|be<|f0 ag ?_;show A (kD 1<|bU s) I;have aD:r= []:=Decidable.of_not_not E;rw [ab,aD,EW,aaT,eJ];exact Z
theorem Kk (s:List UInt8) (b:Nat) (hs:s.length≤65536):HA aE 189 #[.pointer (some ⟨b,0,none⟩)] zO (kD 1<|bU s) (fun W=>W.heap[b]? =some (.cells [str s].toArray 9 (0,0))):=
 fun l A W C E cj I=>Calls.mono (WM s b hs l A W C E cj I) fun e w' ⟨v,he,G⟩=>⟨⟨v,he⟩,G⟩
theorem OP (s:List UInt8) (w:World) (hs:s.length≤1048576):
 bw aE 71 (bl [str s]) w (fun v w'=>(∃ a,v= .tuple #[a,.int .i64 (if 65536 < s.length then 10 else 0)]∧(if 65536 < s.length then a= .slice none 0 0 else bB w' w.heap.size 9 1 (a) (bU s).length ((bU s).map str)))∧Wk w w'):=by
 refine Kw [] func71 ag ntmps71 ag ?_;refine jw<|j6<|rg ag<|p aJ<|p aJ<|nl<|jF<|jw<|jw<|j6<|rg ag<|p (a8 (str s) ag)<|p (c8 u9 ag ag)<|p (gt ag ag)<|nl<|jF<|j6<|cd ag (fun aH=> ?_) fun aH=> ?_;refine sq fun aO aC=>rg ag<|p aJ<|p aJ<|nl<|tn<|aC _ _<|rt<|prt<|KB ag ag ag ?_;have J:65536 < s.length:=aj;exact ⟨⟨.slice none 0 0,by show ij #[.slice none 0 0,.int .i64 10]=_; rw [if_pos J],by rw [if_pos J]⟩,Md.refl _ _⟩;refine aT<|jF<|jw<|j6<|rg ag<|e<|hU aeH fun aq aL aV aD av=>nl<|jF<|jw<|jw<|j6<|rg ag<|p (a8 (str s) ag)<|e<|cl Ip (Kl s _) ag ?_;rintro v11 ao ⟨ac,rfl,aS,au,aw⟩;have O:Wk w ao:=Md.trans aD.md aw;have aF:=aw.aW av;have aU:=(dT.1 au).1;have a1:aq < aL.heap.size:=(dT.1 av).1;have J:s.length≤65536:=aj;refine nl<|jF ?_;apply N9 (zO) (kD 1<|bU s) (fun W=>W.heap[ac]? =some (.cells [str s].toArray 9 (0,0))) (fun pre I=> ∃ v,I.heap[aq]? =some (.cells [v].toArray 35 (0,0))∧bB I ao.heap.size 9 1 v pre.length ((pre.map o8).map str)∧I.heap[ac]? =some (.cells [str s].toArray 9 (0,0))∧ao.heap.size≤I.heap.size∧Wk w I) rfl IE (fun _=>rfl) (Kk s ac J) (⟨.slice none 0 0,aF,dC _ _ _ _,au,cU _,O⟩) (fun _ _ ⟨_,_,_,h,_⟩=>h) (fun pre A C F ⟨v,h1,h2,h3,h5,h4⟩ hm aa=>⟨v,Bk h1 hm aa,OW h2 hm aa,Bk h3 hm aa,fu h5 hm.size,OX h4 hm O.size aa⟩);intro l x I K V;exact rg ag<|p (cV (str x.2) ag)<|nl<|tn<|V;intro l pre x rest I aI ah;obtain ⟨v,ab,G,al,an,ae⟩:=ah;obtain ⟨a0,a3,a4⟩:=Fe aI;have aY:=pS s;have a2:=(dT.1 al).1;refine aW<|rg ag<|p (ld ky ag<|(bo ab).trans ag)<|p mv<|e<|fU eY ag ag fun aP aK ai E ax=> ?_;have az:Wk w aK:=Md.trans ae E.md;have ai:=E.md.aW ab;refine e<|ap eY (bc G E.md) ag (fu an E.md.size) ag (aR.dZ ax) (ag) (ag) aj aj fun v17 a6 am Y a5 aX=> ?_;have aA:=Wk.own az (bc G E.md) Y O.size;have aG:=Y.aW (E.md.aW al) fun h=>by have :=dK (bc G E.md) h; omega
 have ak:=Y.aW ai fun h=>eh (bc G E.md) ai aM h;refine e<|dB JR ag ag (fG am) ak (by simp) fun aN Z ay=> ?_;have aB:Wk w aN:=Md.trans' aA Z fun k hk h=>by omega
 exact nl<|bn<|⟨(k4.wk E.md).trans ((k4.md Y<|x7<|bc G E.md).trans<|k4.md Z fun k hk=>⟨_,_,_,hk ▸ ak⟩),v17,ay,dz (by rw [fZ,fZ,bP]; exact am) Z (fun k hk h=>eh am ak aM<|h ▸ hk),Z.aW aG (fun h=>by omega),fu an (fu E.md.size<|fu Y.size Z.size),aB⟩
 intro D I aQ ah V;obtain ⟨v,ab,G,al,an,ae⟩:=ah;have aZ:=(dT.1 V).1;refine jF<|jw<|j6<|rg ag<|p (ld ky ag<|(bo ab).trans ag)<|p aJ<|p aJ<|nl<|jF<|FV<|KC ag ag ag V ?_;have J:¬65536 < s.length:=aj;rw [Ff,Nv] at G;exact ⟨⟨v,by show ij #[v,.int .i64 0]=_; rw [if_neg J],by rw [if_neg J]; exact eT (dz G (vw _ _ _) fun k hk h=>by obtain ⟨c,e,z,h1⟩:=x7 G k hk; rw [h,V] at h1; cases h1) O.size⟩,Md.trans' ae (vw _ _ _) fun k hk h=>by have :=O.size; omega⟩
set_option maxHeartbeats 1000000 in
theorem Oa (s:List UInt8) (w:World) (hs:s.length≤1048576):
 bw aE 70 (bl [str s]) w (fun v w'=>(∃ a,v= .tuple #[a,.int .i64 (if 65536 < s.length then 10 else 0)]∧(if 65536 < s.length then a= .slice none 0 0 else ∃ vs,bB w' w.heap.size 181 2 a (cx s).length (lr vs)∧ja w' w.heap.size 9 vs (cx s)))∧Wk w w'):=by
 refine Kw [] func70 ag ntmps70 ag ?_;refine jw<|j6<|rg ag<|p aJ<|p aJ<|nl<|jF<|jw<|jw<|j6<|rg ag<|p (a8 (str s) ag)<|p (c8 u9 ag ag)<|p (gt ag ag)<|nl<|jF<|j6<|cd ag (fun bx=> ?_) fun bx=> ?_;refine sq fun aK ah=>rg ag<|p aJ<|p aJ<|nl<|tn<|ah _ _<|rt<|prt<|KB ag ag ag ?_;have Y:65536 < s.length:=aj;exact ⟨⟨.slice none 0 0,by show ij #[.slice none 0 0,.int .i64 10]=_; rw [if_pos Y],by rw [if_pos Y]⟩,Md.refl _ _⟩;refine aT<|jF<|jw<|j6<|rg ag<|e<|hU aeE fun an bS b8 bt aO=>nl<|jF<|jw<|jw<|j6<|rg ag<|p (a8 (str s) ag)<|e<|cl Ip (Kl s _) ag ?_;rintro cj av ⟨ax,rfl,b6,aN,aQ⟩;have aa:Wk w av:=Md.trans bt.md aQ;have cf:an < bS.heap.size:=(dT.1 aO).1;have bu:=aQ.aW aO;have b7:=(dT.1 aN).1;have Y:s.length≤65536:=aj;refine nl<|jF ?_;apply N9 (zO) (kD 1<|bU s) (fun W=>W.heap[ax]? =some (.cells [str s].toArray 9 (0,0))) (fun pre J=> ∃ v vs,J.heap[an]? =some (.cells [v].toArray 156 (0,0))∧bB J av.heap.size 181 2 v (mo 1<|pre.map o8).length (lr vs)∧ja J av.heap.size 9 vs (mo 1<|pre.map o8)∧J.heap[ax]? =some (.cells [str s].toArray 9 (0,0))∧av.heap.size≤J.heap.size∧Wk w J) rfl IE (fun _=>rfl) (Kk s ax Y) (⟨.slice none 0 0,[],bu,dC _ _ _ _,ja.nil _ _ _,aN,cU _,aa⟩) (fun _ _ ⟨_,_,_,_,_,h,_⟩=>h) (fun pre A C F ⟨v,vs,h1,h2,a7,h3,h5,h4⟩ hm ae=>⟨v,vs,Bk h1 hm ae,OW h2 hm ae,a7.md hm (fun k hk cur z=>(ae k hk).2 cur _ z),Bk h3 hm ae,fu h5 hm.size,OX h4 hm aa.size ae⟩);intro l x J K ab;exact sq fun aK ah=>rg ag<|p (cV (.int .i64 x.1) ag)<|nl<|tn<|ah _ _<|rg ag<|p (cV (str x.2) ag)<|nl<|tn<|ab;intro l pre x rest J bM aA;obtain ⟨v,vs,aG,al,aq,aF,au,az⟩:=aA;obtain ⟨ce,bO,bQ⟩:=Fe bM;have cb:=pS s;have cg:=(dT.1 aF).1;have ch:x.2.length≤s.length:=ET<|by rw [bQ]; simp
 have ca:=xA x.2 [];have bG:=FR (pre.map o8) 1;rw [fH] at bG;refine aW<|sq fun aK ah=>rg ag<|p mv<|e<|cl SB (Xp x.2 _ aj) ag ?_;rintro ck a0 ⟨ak,bd⟩;obtain ⟨E,ao,rfl⟩:=cM ak;have aS:=(bg ak).2;have bz:=(bg ak).1;refine p aJ<|nl<|tn<|ah _ _ ?_;refine ez (fun a3 aw=> ∃ (n cp:Nat),(n≤(dj [] x.2).length)∧(n≤cp)∧(pR (dj [] x.2)=(dj [] x.2).take n)∧(Wk a0 aw)∧(Sl a3 [(4,.pointer (some ⟨an,0,none⟩)),(5,.int .i64 x.1),(7,.slice E n cp)])) ?_ ?_;refine sq fun a5 aB=>rg ag<|p mv<|p (bN ee ag ag)<|p mv<|nl<|tn<|aB _ _<|aW<|lp (fun aL a4 a2=> ∃ (i:Nat),(i≤(dj [] x.2).length)∧(∀ q,q < i→yd ((dj [] x.2).getD q [])=false)∧(Wk a0 a2)∧(Sl a4 [(4,.pointer (some ⟨an,0,none⟩)),(5,.int .i64 x.1),(7,.slice E (dj [] x.2).length ao),(19,.slice E (dj [] x.2).length ao),(20,.int .i64 (dj [] x.2).length),(21,.int .i64 i)])∧((dj [] x.2).length - i=aL)) _ ⟨0,aj,(fun q bF=>by omega),(Md.refl _ _),ag,ag⟩ ?_;rintro aL a4 a2 ⟨i,hi,aI,ac,bL,rfl⟩;refine bH bL<|sq fun bZ bk=>rg ag<|p (lt ag ag)<|nl<|tn<|bk _ _<|sq fun b0 bm=>cd ag (fun bA=> ?_) fun bA=> ?_;refine aT<|tn<|bm _ _<|sq fun b1 bp=>aW<|sq fun b2 bq=>rg ag<|p (a8 (.int .i64 i) ag)<|p (bh cE ag ag aj<|aR.ok (aS.wk ac)<|bY aj)<|p (ld bW ag<|cw.get (i:=i) (aS.wk ac) aj)<|p (cV (.int .i64 i) ag)<|p aJ<|nl<|tn<|bq _ _<|sq fun b3 br=>rg ag<|p mv<|p (jQ 0 u9 ag ag<|mr.2 (DX _ _ _<|Yi aj).1)<|p (bT ag ag)<|nl<|tn<|br _ _<|cd ag (fun bC=> ?_) fun bC=> ?_;exact sq fun b4 bs=>rg ag<|p (a8 (.slice E (dj [] x.2).length ao) ag)<|p (a8 (.int .i64 i) ag)<|p (a8 (.int .i64 i) ag)<|p (UO cE ag ag ag aj)<|p aJ<|nl<|tn<|bs _ _<|ext<|qh aM<|te _<|te _<|be<|tn<|⟨i,i,hi,(cU _),(Ay hi aI<|.inr<|decide_eq_true aj),ac,ag⟩
 exact aT<|bn<|tn<|bp _ _<|rg ag<|p (ad ag ag<|cR aj)<|p mv<|nl<|tn<|⟨_,aj,i+1,aj,(fun q bF=>by rcases fT q i with h | h <;> first | exact aI q h | (rw [show q=i by omega]; exact decide_eq_false aj)),ac,ag,ag⟩
 exact ext<|te _<|te _<|be<|tn<|⟨(dj [] x.2).length,ao,(cU _),bz,(by have h:=Ay hi aI (.inl aj); rwa [show i=(dj [] x.2).length from by omega] at h),ac,ag⟩
 rintro a3 aw ⟨n,cp,hn,bE,aV,ay,bK⟩;refine bH bK ?_;have G:Wk J aw:=Md.trans bd ay;have aD:=G.aW aG;have aY:=bc al G;have aZ:=aq.wk G;have aU:=G.aW aF;have aP:Wk w aw:=Md.trans az G;refine sq fun a5 aB=>rg ag<|p (a8 (.slice E n cp) ag)<|p (bN ee ag ag)<|p (gt ag ag)<|nl<|tn<|aB _ _<|cd ag (fun bD=> ?_) fun bD=> ?_;have am:ml x.2 (1 +pre.length)= [(x.1,(dj [] x.2).take n)]:=by unfold ml; rw [aV,if_neg (fun h=>by have h:=congrArg jV h; rw [dM,gC] at h; omega),← bO]
 refine rg ag<|p (ld uF ag<|(bo aD).trans ag)<|p (a8 (.int .i64 x.1) ag)<|p (a8 (.slice E n cp) ag)<|p (dt (ps:= [(0,.int .i64 x.1),(1,.slice E n cp)]) (L:= [.int .i64 x.1,.slice E n cp]) ac5 ag<|ag)<|e<|lF OH ag ag ag fun a6 a1 aC I a9=> ?_;have ba:bX a1.heap a6 [.int .i64 x.1,.slice E n cp]:=a9;have bf:Wk w a1:=Md.trans aP I.md;have Z:=bc aY I.md;have aC:=I.md.aW aD;refine e<|ap OH (Z) ag (by have :=I.size; have :=G.size; omega) ag (aR.dZ ba) (ag) (ag) aj aj fun bR cm aH O ci b9=> ?_;have bi:=Wk.own bf Z O aa.size;have bv:=O.aW (I.md.aW aU) fun h=>by have :=dK Z h; omega
 have ai:=O.aW aC fun h=>eh Z aC aM h;have bI:=(aZ.wk I.md).md O<|ji Z aM;have aX:=dz (bc (bc ak ay) I.md) O fun k hk=>nT (bc (bc ak ay) I.md) Z aM hk;refine e<|dB JO ag ag (fG aH) ai (by simp) fun bV V bb=> ?_;have bj:Wk w bV:=Md.trans' bi V fun k hk h=>by omega
 have bJ:=(bI.md V<|gk ai aM).snoc (n:=x.1) (r:=(dj [] x.2).take n) (v:= .slice E n cp)<|by rw [dM,Nat.min_eq_left hn,List.map_take]; exact (Tg.kj<|eT (dz aX V fun k hk h=>eh aX ai aM<|h ▸ hk) au).clip bE
 exact nl<|bn<|⟨(k4.wk G).trans ((k4.wk I.md).trans<|(k4.md O<|x7 Z).trans<|k4.md V fun k hk=>⟨_,_,_,hk ▸ ai⟩),bR,vs++ [(x.1,.slice E n cp)],bb,(by rw [fZ,show [x].map o8= [x.2] from ag,oT,fH,am]; rw [bP,F1]; exact dz aH V fun k hk h=>eh aH ai aM<|h ▸ hk),(by rw [fZ,show [x].map o8= [x.2] from ag,oT,fH,am]; exact bJ),V.aW bv (fun h=>by omega),fu au (fu G.size<|fu I.md.size<|fu O.size V.size),bj⟩
 have am:ml x.2 (1 +pre.length)= []:=by unfold ml; rw [aV,if_pos (by rw [show n=0 by omega]; rfl)]
 exact aT<|bn<|⟨k4.wk G,v,vs,aD,(by rw [fZ,show [x].map o8= [x.2] from ag,oT,fH,am]; rw [eJ]; exact aY),(by rw [fZ,show [x].map o8= [x.2] from ag,oT,fH,am]; rw [eJ]; exact aZ),aU,fu au G.size,aP⟩
 intro D J b5 aA ab;obtain ⟨v,vs,aG,al,aq,aF,au,az⟩:=aA;have cc:=(dT.1 ab).1;refine jF<|jw<|j6<|rg ag<|p (ld uF ag<|(bo aG).trans ag)<|p aJ<|p aJ<|nl<|jF<|FV<|KC ag ag ag ab ?_;have Y:¬65536 < s.length:=aj;rw [Ff] at al aq;exact ⟨⟨v,by show ij #[v,.int .i64 0]=_; rw [if_neg Y],by rw [if_neg Y]; exact ⟨vs,eT (dz al (vw _ _ _) fun k hk h=>by obtain ⟨c,e,z,h1⟩:=x7 al k hk; rw [h,ab] at h1; cases h1) aa.size,(aq.md (vw _ _ _) fun k hk cur z=>by rw [hk,ab]; simp).mono aa.size⟩⟩,Md.trans' az (vw _ _ _) fun k hk h=>by have :=aa.size; omega⟩
end Go.Hb
section
namespace Go.Hb.iY
open Go.Hb.pc
theorem sx {eof ln:Nat} {F F':aX} {hs:List Tx} {rows rows':List Rw} {row:List Tx} (A:cW eof F hs rows ln row= .ok (F',rows')):rows'.length≤rows.length:=by
 unfold cW at A
 repeat' split at A
 · unfold kF at A; split at A; cases A; cases A; exact cU _
 · unfold kW at A; repeat' split at A
   all_goals first | (cases A; done) | (cases A; exact cU _)
 · unfold nb at A; split at A; cases A; cases A; exact cU _
 · unfold nk at A; split at A; cases A; cases A; exact cU _
 · unfold lj at A; repeat' split at A
   all_goals first | (cases A; done) | (cases A; exact cU _)
 · unfold kE at A; repeat' split at A
   all_goals first | (cases A; done) | (cases A; exact (xP _ _ _<|by assumption).1)
 · unfold kn at A; repeat' split at A
   all_goals first | (cases A; done) | (cases A; exact (xP _ _ _<|by assumption).1)
 · unfold iu at A; repeat' split at A
   all_goals first | (cases A; done) | (cases A; exact (xP _ _ _<|by assumption).1)
theorem yc {eof k:Nat} {F:aX} {hs:List Tx} :iH eof k F hs []= .ok F:=by cases k <;> simp [iH]
section
variable {eof k n:Nat} {F:aX} {hs:List Tx} {r:List Tx} {rest:List Rw} {T:Except (Nat×Nat) aX} (h:iH eof k F hs ((n,r)::rest)=T) (hk:rest.length+1≤k)
include h hk
theorem NY (A:width (r.getD 0 [])=0):T= .error (n,110):=by
 obtain ⟨m,rfl⟩:∃ m,k=m+1:=⟨k - 1,aj⟩
 rw [← h,iH,if_pos A]
theorem NZ (A:width (r.getD 0 [])≠0) (h1:r.length≠width (r.getD 0 [])):T= .error (n,111):=by
 obtain ⟨m,rfl⟩:∃ m,k=m+1:=⟨k - 1,aj⟩
 rw [← h,iH,if_neg A,if_pos h1]
theorem FI (A:width (r.getD 0 [])≠0) (h1:r.length=width (r.getD 0 [])) (h2:width (r.getD 0 [])≠4) (h3:r.getD 0 []∈hs):T= .error (n,112):=by
 obtain ⟨m,rfl⟩:∃ m,k=m+1:=⟨k - 1,aj⟩
 have hw:width (r.getD 0 [])=2:=by
  unfold width at A h2 ⊢;split
  · rfl
  · rename_i hn;rw [if_neg hn] at A h2;split at h2
    · exact absurd ag h2
    · rename_i C; rw [if_neg C] at A; exact absurd rfl A
 rw [← h,iH,if_neg A,if_neg (fun h4=>h4 h1),if_pos ⟨hw,h3⟩]
theorem FJ {e:Nat×Nat} (A:width (r.getD 0 [])≠0) (h1:r.length=width (r.getD 0 [])) (h2:width (r.getD 0 [])=2→r.getD 0 []∉hs) (h3:cW eof F hs rest n r= .error e):T= .error e:=by
 obtain ⟨m,rfl⟩:∃ m,k=m+1:=⟨k - 1,aj⟩
 rw [← h,iH,if_neg A,if_neg (fun h4=>h4 h1),if_neg (fun h4=>h2 h4.1 h4.2),h3]
theorem FK {F':aX} {rows':List Rw} (A:width (r.getD 0 [])≠0) (h1:r.length=width (r.getD 0 [])) (h2:width (r.getD 0 [])=2→r.getD 0 []∉hs) (h3:cW eof F hs rest n r= .ok (F',rows')):iH eof (k - 1) F' (hs++ [r.getD 0 []]) rows'=T∧rows'.length≤k - 1:=by
 obtain ⟨m,rfl⟩:∃ m,k=m+1:=⟨k - 1,aj⟩
 refine ⟨?_,by have :=sx h3; omega⟩;rw [← h,iH,if_neg A,if_neg (fun h4=>h4 h1),if_neg (fun h4=>h2 h4.1 h4.2),h3]; rfl
end
theorem HL {s:Tx} (h:65536 < s.length):ga s= .error (0,10):=by unfold ga; rw [if_pos h]
theorem qf {s:Tx} {e:Nat×Nat} (h:¬65536 < s.length) (h1:iH ((bU s).length+1) (cx s).length jb [] (cx s)= .error e):ga s= .error e:=by unfold ga; rw [if_neg h,h1]
theorem Cm {s:Tx} {F:aX} {q:dd} (h:¬65536 < s.length) (h1:iH ((bU s).length+1) (cx s).length jb [] (cx s)= .ok F) (h2:F.rules.find? (po F)=some q):ga s= .error (q.line,118):=by unfold ga; rw [if_neg h,h1]; simp only; rw [h2]
theorem HN {s:Tx} {F:aX} (h:¬65536 < s.length) (h1:iH ((bU s).length+1) (cx s).length jb [] (cx s)= .ok F) (h2:F.rules.find? (po F)=none):ga s= .ok F:=by unfold ga; rw [if_neg h,h1]; simp only; rw [h2]
def sA (s:Tx):Value:=match js s with | some (.agg cs)=>cs.getD 1 .nilFunc | _=> .nilFunc
theorem Y0 (s:Tx):(js s).getD (.agg #[.int .i64 0,.nilFunc])= .agg [.int .i64 (width s:Nat),sA s].toArray∧(js s).isSome=decide (width s≠0):=by
 rcases EA s with h | ⟨wd,f,h,hw,A⟩
 · have A:=Mi h;unfold sA;rw [h,A]; exact ⟨rfl,rfl⟩
 · unfold sA;rw [h,hw,decide_eq_true A]; exact ⟨rfl,rfl⟩
theorem Y8 (s:Tx):[gY .i64 (width s:Nat),sA s].all gI=true :=by
 rcases EA s with h | ⟨wd,f,h,hw,A⟩ <;> unfold sA <;> rw [h] <;> rfl
theorem Mh {s:Tx} (h:width s≠0):∃ v,js s=some v∧∀ (wd:Nat) (f:Nat),v= .agg [.int .i64 (wd:Nat),.func (.func f) #[] #[]].toArray→sA s= .func (.func f) #[] #[]:=by
 rcases EA s with h1 | ⟨wd,f,h1,hw,C⟩
 · exact absurd (Mi h1) h
 · refine ⟨_,h1,fun E A he=> ?_⟩;unfold sA;rw [h1,he]; rfl
theorem Oo {f:Value→Option Value} {seen:List Tx} (k:Tx) (A:∀ s:Tx,(f<|str s).getD (.int .i64 0)= .int .i64 (seen.count s:Nat)) (s:Tx):(bZ f (str k) (.int .i64 (seen.count k+1:Nat))<|str s).getD (.int .i64 0)= .int .i64 ((seen++ [k]).count s:Nat):=by
 rw [List.count_append];by_cases h:s=k
 · subst h; rw [oR]; simp
 · rw [mF (fun h2=>h<|str_inj.1 h2),A s,List.count_singleton,show (k==s)=false from by simpa using fun h2=>h h2.symm]; rfl
theorem dP.On {w w':World} {B:Nat} {H:dI} {F:aX} {R:iX} {rows:List Rw} {ln:Nat} {seen E:List Tx} {f:Value→Option Value} (h:dP w B H F R rows ln seen) (hm:Md (fun k=>k=H.ms) w w') (G:dq w'.heap H.ms j5 f) (hd:∀ s:Tx,(f<|str s).getD (.int .i64 0)= .int .i64 (E.count s:Nat)):dP w' B H F R rows ln E:=by
 obtain ⟨g,J,O⟩:=h.tm;obtain ⟨f0,I,_⟩:=h.sm;have A:TF w [1] (fun k=>k=H.ms):=TF.eq (e5 I) aM;exact ⟨hm.jd A h.cells aM,h.rws.md hm (fun k hk cur z C=>A.no (dS C) aM hk),h.rt.md hm (fun k hk cur z C=>A.no (dS C) aM hk),⟨f,G,hd⟩,⟨g,J.md hm (fun h2=>h.ne.1 h2.symm),O⟩,c7 h.on hm A aM,h.lo,h.ne⟩
theorem eu.ms {w w':World} {B:Nat} {H:dI} {F A:aX} {V:fN} {R:iX} {rows:List Rw} {ln:Nat} {seen:List Tx} (h:eu w B H.fb H.mc A V) (C:dP w B H F R rows ln seen) (hm:Md (fun k=>k=H.ms) w w'):eu w' B H.fb H.mc A V:=by
 obtain ⟨g,E,_⟩:=C.sm;exact h.md (L:= [1]) hm (TF.eq (e5 E) aM) aM fun h=>C.ne.2.1 h.symm
theorem gu.ms {w w':World} {B:Nat} {H:dI} {F:aX} {R:iX} {rows:List Rw} {ln:Nat} {seen:List Tx} (A:dP w B H F R rows ln seen) (hm:Md (fun k=>k=H.ms) w w'):gu B H w w':=hm.mono fun k _ hk=>⟨hk ▸ A.lo.2.1,.inl hk⟩
structure qR (w0 w:World) (H:dI) (b2 b3 bt:Nat):Prop where
 c2:w.heap[b2]? =some (.cells [.pointer none].toArray 88 (0,0))
 c3:w.heap[b3]? =some (.cells [.int .i64 0,.int .i64 0,.int .i64 0].toArray 45 (0,0))
 lo:w0.heap.size≤b2∧w0.heap.size≤b3∧b2≠b3
 tb:∃ f,dq w.heap bt j5 f∧∀ s,f (str s)=js s
 ne:bt≠H.ms∧bt≠H.mt∧bt≠H.mc
 wk:Wk w0 w
theorem qR.md {w0 w w':World} {H:dI} {A C E:Nat} (h:qR w0 w H A C E) (hm:Wk w w'):qR w0 w' H A C E:=by
 obtain ⟨f,G,I⟩:=h.tb;exact ⟨Wk.aW hm h.c2,Wk.aW hm h.c3,h.lo,⟨f,G.wk hm,I⟩,h.ne,h.wk.trans hm⟩
theorem qR.mw {w0 w w':World} {H:dI} {A C E:Nat} {F:aX} {R:iX} {V:fN} {rows:List Rw} {ln:Nat} {seen:List Tx} (h:qR w0 w H A C E) (J:eu w w0.heap.size H.fb H.mc F V) (G:dP w w0.heap.size H F R rows ln seen) (hm:gu w0.heap.size H w w'):qR w0 w' H A C E:=by
 obtain ⟨f,I,Y⟩:=h.tb;obtain ⟨f1,O,_⟩:=G.sm;obtain ⟨f2,Z,_⟩:=G.tm;obtain ⟨f3,aa,_⟩:=J.cm;have hn:=fun e (ab:([169,166,191,53,194,136,5]:List Nat).contains (e+2)=false)=>Wr.ne (B:=w0.heap.size) (e5 O) (e5 Z) (e5 aa) ab;refine ⟨hm.aW h.c2 (fun hk=>hn 88 aM _ hk _ _ h.c2),hm.aW h.c3 (fun hk=>hn 45 aM _ hk _ _ h.c3),h.lo,⟨f,I.md hm ?_,Y⟩,h.ne,hm.wk h.wk<|cU _⟩;rintro ⟨_,h1 | h1 | h1 | h1⟩
 · exact h.ne.1 h1
 · exact h.ne.2.1 h1
 · exact h.ne.2.2 h1
 · rw [e5 I] at h1; exact absurd h1 aM
def Rg (w':World) (B:Nat) (F:aX) (v:Value):Prop := ∃ fb mc V,v= .tuple #[.pointer (some ⟨fb,0,none⟩),.agg [.int .i64 0,.int .i64 0,.int .i64 0].toArray]∧eu w' B fb mc F V∧(∃ seen,lB F [] seen)∧Nx F
def Rf (e:Nat×Nat) (v:Value):Prop :=v= .tuple #[.pointer none,.agg [.int .i64 1,.int .i64 (e.1:Nat),.int .i64 (e.2:Nat)].toArray]
def qV (s:Tx) (w:World) (v:Value) (w':World):Prop :=(match ga s with | .ok F=>Rg w' w.heap.size F v | .error e=>Rf e v)∧Wk w w'
theorem qV.no {s:Tx} {w w':World} {l e:Nat} (h:ga s= .error (l,e)) (hm:Wk w w'):qV s w (.tuple #[.pointer none,.agg [.int .i64 1,.int .i64 (l:Nat),.int .i64 (e:Nat)].toArray]) w':=by
 unfold qV; rw [h]; exact ⟨rfl,hm⟩
theorem tP {n:Nat} {G:List Nat} {fn:Func} {σ:Nat→Value} {s:Tx} {w W:World} {H:dI} {C E I l e:Nat} (O:fn.results= #[.cell 2 88,.cell 3 45]) (J:3 < n) (V:σ 2= .pointer (some ⟨C,0,none⟩)) (Y:σ 3= .pointer (some ⟨E,0,none⟩)) (A:qR w W H C E I) (Z:ga s= .error (l,e)):qb ⟨n,[{target:= .fn (.func 72) #[.pointer (some ⟨C,0,none⟩),.pointer (some ⟨E,0,none⟩)],args:= #[]}],G,none⟩ (rX aE fn<|qV s w) (.panic<|j0 45 l (e:Nat)) σ W:=
 abJ O J V Y ⟨_,A.c2⟩ ⟨_,rfl,A.c3⟩ A.lo.2.2 (fun w' hm=>qV.no Z<|A.wk.trans' hm fun k hk h=>by rcases h with rfl | rfl; have :=A.lo.1; omega; have :=A.lo.2.1; omega)
theorem Wg {x:Nat} (h:x≠0):e8 jb x=false :=by
 unfold e8 jb eB;simp [h]
theorem Wk.dr {w:World} :Wk w w.drew:=(Md.refl _ _).drew
theorem RA (s:Tx) (w:World) (hs:s.length≤1048576):
 bw aE 39 (bl [str s]) w (qV s w):=by
 refine WW [2,3] func39 ag ntmps39 ag ?_;refine jw<|j6<|rg ag<|e<|hU aeI fun aI fb eA ct cV=>e<|hU rI fun aK eh eD bu c0=> ?_;have eS:=ct.size;have eX:=bu.size;have dc:Wk w eh:=ct.md.trans bu.md;have dZ:=Wk.aW bu.md cV;refine nl<|jF<|jw<|j6<|rg ag<|p (a8 (str s) ag)<|e<|cl Je (Oa s _ hs) ag ?_;rintro e6 e9 ⟨⟨ex,rfl,cz⟩,hE15⟩;have cf:=dc.trans hE15;have cF:=Wk.aW hE15 dZ;have cG:=Wk.aW hE15 c0;have eR:=hE15.size;refine p mv<|p (xt ag ag)<|p (xt ag ag)<|p aJ<|p aJ<|nl<|jF<|jw<|jw<|j6<|rg ag<|p mv<|p (dw ag ag)<|nl<|jF<|j6<|cd ag (fun bE=> ?_) fun bE=> ?_;have cy:65536 < s.length:=Classical.byContradiction fun h=>bE<|by rw [if_neg h]
 exact sq fun cL bm=>rg ag<|p mv<|p (dt (ps:= [(0,.int .i64 1),(2,.int .i64 (if 65536 < s.length then 10 else 0))]) (L:= [.int .i64 1,.int .i64 0,.int .i64 (if 65536 < s.length then 10 else 0)]) vJ ag<|ag)<|e<|dB Du ag ag (v:= .pointer none) ag cF aM fun fh cq c6=>e<|gS kz ag ag ag ag (cq.aW cG fun h=>by omega) aM fun fk cs c7=>nl<|tn<|bm _ _<|rt<|prt<|Xj (AY ag (oU<|FT ag ag<|(bo<|cs.aW c6 fun h=>by omega).trans ag)<|oU<|eo ag ag ag fun j eJ=>by rw [iV,bo c7,if_pos cy]; simp)<|qV.no (HL cy)<|(cf.trans' cq fun k hk h=>by omega).trans' cs fun k hk h=>by omega
 have ao:¬65536 < s.length:=fun h=>bE<|by rw [if_pos h]; decide
 rw [if_neg ao] at cz;obtain ⟨vs,cD,d0⟩:=cz;obtain ⟨ar,cr,rfl⟩:=cM cD;refine aT<|jF<|jw<|j6<|rg ag<|p (a8 (str s) ag)<|e<|cl Jf (OP s _ hs) ag ?_;rintro v24 cJ ⟨⟨a24,rfl,cA⟩,hE24⟩;rw [if_neg ao] at cA;obtain ⟨e1,qZ,rfl⟩:=cM cA;have da:=cf.trans hE24;have eK:=pS s;have eT:=hE24.size;refine p mv<|p (xt ag ag)<|p (xt ag ag)<|p aJ<|p aJ<|nl<|jF<|jw<|j6<|rg ag<|e<|tN fun O fd eB cu cY=> ?_;have eV:=cu.size;refine p (dt (ps:= [(1,.map (some O))]) (L:= [.int .i64 0,.string ⟨⟨[]⟩⟩,.string ⟨⟨[]⟩⟩,.int .u16 0,.int .u16 0,.int .u16 0,.int .u16 0,.int .u16 0,.int .i64 0,.slice none 0 0,.slice none 0 0,.slice none 0 0,.slice none 0 0,.map (some O)]) ac3 ag<|ag)<|e<|oB ag fun I fe eC bt cZ=> ?_;have eW:=bt.size;refine p mv<|p mv<|p (bN ee ag ag)<|p (bJ (((bU s).length+1:Nat):Int) ag ag<|bp aj aj)<|e<|tN fun Z ff eE bc c4=> ?_;have eY:=bc.size;refine e<|tN fun aa fg eG aY c5=> ?_;have eZ:=aY.size;refine p (dt (ps:= [(0,.pointer (some ⟨I,0,none⟩)),(1,.slice ar (cx s).length cr),(3,.int .i64 ((bU s).length+1:Nat)),(4,.map (some Z)),(5,.map (some aa))]) (L:= [.pointer (some ⟨I,0,none⟩),.slice ar (cx s).length cr,.int .i64 0,.int .i64 ((bU s).length+1:Nat),.map (some Z),.map (some aa),.slice none 0 0]) ac4 ag<|ag)<|e<|oB ag fun A aG eH aO bj=> ?_;have e0:=aO.size;have dO:=Wk.aW (bc.md.trans<|aY.md.trans aO.md) cZ;refine p aJ<|nl<|jF<|jw<|j6 ?_;have ai:(fun w'=>Md (fun k=>k=I) aG w') aG.drew:=(Md.refl _ _).drew;refine cj (fun w'=>Md (fun k=>k=I) aG w') ag wide ai<|hp 0 ag au (fun _ _=>mv) ai<|hp 1 ag au (fun _ _=>nc ag) ai<|hp 2 ag au (fun _ _=>fa jg ag) ai<|hp 3 ag au (fun w' J=>ld gP ag<|Md.a7 J ((bo bj).trans ag) fun h=>by omega) ai<|hp 4 ag au (fun _ _=>mv) ai<|hp 5 ag au (fun _ _=>nc ag) ai<|hp 6 ag au (fun _ _=>fa jg ag) ai<|hp 7 ag au (fun w' J=>ld gP ag<|Md.a7 J ((bo bj).trans ag) fun h=>by omega) ai<|hp 8 ag au (fun _ _=>nc ag) ai<|hp 9 ag au (fun _ _=>fa iD ag) ai<|hp 10 ag au (fun _ _=>fa vb ag) ai<|he 11 ag au<|dB hZ ag ag (v:= .int .i64 (1:Nat)) ag dO (by show 0 +0 +0 < 14; decide) fun ek ds c8=> ?_;have aZ:(fun w'=>Md (fun k=>k=I) aG w') ek:=ai.trans' ds fun _ _ h=>h;refine ⟨aZ,?_⟩;refine hp 12 ag au (fun _ _=>nc ag) aZ<|hp 13 ag au (fun _ _=>fa iD ag) aZ<|hp 14 ag au (fun _ _=>fa D0 ag) aZ<|he 15 ag au<|dB hZ ag ag (v:= .int .i64 (3:Nat)) ag c8 (by show _ < 14; decide) fun el dv c9=> ?_;have bC:(fun w'=>Md (fun k=>k=I) aG w') el:=aZ.trans' dv fun _ _ h=>h;refine ⟨bC,?_⟩;refine hn au<|jF<|jw<|Ww Z5 #[.pointer (some ⟨aI,0,none⟩),.pointer (some ⟨aK,0,none⟩)] ag aM ?_;refine jw<|j6<|rg ag<|e<|cl Uf (Y5 _) ag ?_;rintro v53 an ⟨aB,rfl,eI,d6,cg⟩;have dd:Wk cJ aG:=cu.md.trans<|bt.md.trans<|bc.md.trans<|aY.md.trans aO.md;have aN:Md (fun k=>k=I) aG an:=bC.trans' cg fun _ _ h=>h.elim;have aV:Wk cJ an:=Md.trans' dd aN fun k hk h=>by omega
 have eO:=aN.size;have de:=da.trans aV;have dL:an.heap[I]? =some (.cells (qm jb ⟨.slice none 0 0,.slice none 0 0,.slice none 0 0,.slice none 0 0,[],[]⟩ O).toArray 164 (0,0)):=Wk.aW cg c9;have dN:an.heap[A]? =some (.cells (yb (⟨A,I,Z,aa,O,(bU s).length+1⟩:dI) ⟨.slice ar (cx s).length cr,vs,.slice none 0 0⟩ 0).toArray 167 (0,0)):=aN.aW bj fun h=>by omega
 have dU:dq an.heap O (lf .u16) (fun _=>none):=dq.md (dq.wk (dq.nil cY)<|bt.md.trans<|bc.md.trans<|aY.md.trans aO.md) aN fun h=>by omega
 have dV:dq an.heap Z j5 (fun _=>none):=dq.md (dq.wk (dq.nil c4)<|aY.md.trans aO.md) aN fun h=>by omega
 have dW:dq an.heap aa (lf .u16) (fun _=>none):=dq.md (dq.wk (dq.nil c5) aO.md) aN fun h=>by omega
 have df:eu an w.heap.size I O jb ⟨.slice none 0 0,.slice none 0 0,.slice none 0 0,.slice none 0 0,[],[]⟩:=⟨dL,dC _ _ _ _,dC _ _ _ _,eU.nil _ _ _,dC _ _ _ _,dC _ _ _ _,eU.nil _ _ _,⟨_,dU,fun _=>rfl⟩,⟨aj,aj⟩,rfl⟩
 have dy:dP an w.heap.size (⟨A,I,Z,aa,O,(bU s).length+1⟩:dI) jb ⟨.slice ar (cx s).length cr,vs,.slice none 0 0⟩ (cx s) 0 []:=⟨dN,(((Tg.kj cD).mono aj).wk<|hE24.trans aV).tgo,(d0.mono aj).wk (hE24.trans aV),⟨_,dV,fun _=>rfl⟩,⟨_,dW,fun x b6=>by rw [Wg b6]; rfl⟩,dC _ _ _ _,⟨by show w.heap.size≤A; omega,by show w.heap.size≤Z; omega,by show w.heap.size≤aa; omega⟩,⟨by show Z≠aa; omega,by show Z≠O; omega,by show aa≠O; omega⟩⟩
 have eN:=AW s;have dG:St an w.heap.size (⟨A,I,Z,aa,O,(bU s).length+1⟩:dI) jb (cx s) 0 []:=⟨_,_,df,dy,⟨by show 0 +0 +0 +0 +(cx s).length≤70000; omega,by show 0 +(cx s).length≤70000; omega,fun q bZ=>by have h:=AX bZ; exact ⟨h.2.2.1,aj,fun x b6=>by have :=(h.2.2.2.2 x b6).2; omega⟩,.inl rfl,fun l a5=>by cases a5⟩⟩
 have d5:k6 jb []:=fun k hk _=>by have h:∀ k∈eF,jb.sp.getD (eF.idxOf k) 0=0:=aM
                                  exact h k hk
 have dX:Nx jb:=⟨fun l a5=>(by cases a5),fun l a5=>by cases a5⟩
 have eQ:=bC.size;have dY:qR w an (⟨A,I,Z,aa,O,(bU s).length+1⟩:dI) aI aK aB:=⟨Wk.aW (hE24.trans aV) cF,Wk.aW (hE24.trans aV) cG,⟨aj,aj,aj⟩,d6,⟨by show aB≠Z; omega,by show aB≠aa; omega,by show aB≠O; omega⟩,de⟩
 refine p aJ<|nl<|jF<|jw<|j6<|aW<|lp (fun cc cK a9=> ∃ (k:Nat) (F:aX) (rows:List Rw) (ln:Nat) (seen:List Tx),(iH (⟨A,I,Z,aa,O,(bU s).length+1⟩:dI).eof k F seen rows=iH ((bU s).length+1) (cx s).length jb [] (cx s))∧(rows.length≤k)∧(St a9 w.heap.size (⟨A,I,Z,aa,O,(bU s).length+1⟩:dI) F rows ln seen)∧(k6 F seen)∧(Nx F)∧(qR w a9 (⟨A,I,Z,aa,O,(bU s).length+1⟩:dI) aI aK aB)∧(Sl cK [(2,.pointer (some ⟨aI,0,none⟩)),(3,.pointer (some ⟨aK,0,none⟩)),(8,.pointer (some ⟨A,0,none⟩)),(9,.map (some aB))])∧(rows.length=cc)) _ ⟨(cx s).length,jb,cx s,0,[],ag,(cU _),dG,d5,dX,dY,ag,ag⟩ ?_;rintro cc cK a9 ⟨k,F,rows,ln,seen,ak,hk,J,bg,bf,bS,d2,rfl⟩;refine bH d2 ?_;obtain ⟨V,R,Y,aw,aL⟩:=J;obtain ⟨vr,vs,vn⟩:=R;obtain ⟨ca,cb,d7⟩:=aw.rws.slice;obtain rfl :vr= .slice ca rows.length cb:=d7;refine sq fun cL bm=>sq fun em di=>rg ag<|p (a8 (.pointer<|some ⟨A,0,none⟩) ag)<|p (nc ag)<|p (fa xG ag)<|p (ld uF ag<|(bo aw.cells).trans ag)<|p (bN Bv ag ag)<|p (gt ag ag)<|nl<|tn<|di _ _<|cd ag (fun bF=> ?_) fun bF=> ?_;obtain ⟨⟨n,r⟩,rest,rfl⟩:∃ q rest,rows=q::rest:=by
  cases rows with
  | nil=>exact absurd bF<|by simp
  | cons q rest=>exact ⟨q,rest,rfl⟩
 have b3:=aL.row (n,r)<|List.mem_cons_self ..;have dJ:=aL.len;have dK:=aL.sl;simp only [db] at dJ dK hk;refine aT<|tn<|bm _ _<|aW<|sq fun en dj=>rg ag<|p (a8 (.pointer<|some ⟨A,0,none⟩) ag)<|e<|cl Jg (O6 w.heap.size (⟨A,I,Z,aa,O,(bU s).length+1⟩:dI) F ⟨.slice ca (rest.length+1) cb,vs,vn⟩ n r rest ln seen a9 aw) ag ?_;rintro e7 ei ⟨⟨R1,dz⟩,hT1,hM1⟩;obtain ⟨b9,c1,rfl⟩:=hT1.slice;have dg:=Y.rb aw hM1;have cC:=bS.mw Y aw<|gu.rb aw hM1;have eM:0 < r.length:=mr.2 b3.1;have ce:=lB.q8 aL;have cH:=Y0<|r.getD 0 [];obtain ⟨ey,dT,cB⟩:=cC.tb;refine p aJ<|nl<|tn<|dj _ _<|sq fun ep dk=>rg ag<|p (a8 (.map<|some aB) ag)<|p mv<|p (bh cE ag ag aj<|aR.ok (hT1.du.2)<|bY aj)<|p (ld bW ag<|cw.get (i:=0) hT1.du.2 aj)<|p (MU nm aeL jD (dT) ag ag (⟨_,ag⟩) ((congrArg (fun o=>Option.getD o _)<|cB<|r.getD 0 []).trans cH.1)<|(congrArg Option.isSome<|cB<|r.getD 0 []).trans cH.2)<|p mv<|p (xt ag ag)<|p (xt ag ag)<|e<|hU aeF fun cQ e8 ez dx cS=>e<|gS V0 ag ag ag (Y8 _) cS aM fun b8 dp cT=> ?_;have bb:Wk ei b8:=dx.md.trans' dp fun k hk h=>by omega
 have bd:b8.heap[cQ]? =some (.cells [.int .i64 (width (r.getD 0 []):Nat),sA (r.getD 0 [])].toArray 174 (0,0)):=cT;have az:=dg.wk bb;have ab:=dz.wk bb;have aP:=hT1.wk bb;have aA:=cC.md bb;refine p aJ<|nl<|tn<|dk _ _<|sq fun er dl=>rg ag<|p (a8 (.pointer<|some ⟨A,0,none⟩) ag)<|p mv ?_;refine eP ag (et jo (jv A n _ 110 b8 ab.dH aM) ag fun v72 ej dE=> ?_) (fun c w' ae aS Y=>by
  obtain ⟨rfl,ax,rfl⟩:=ae;exact tP ag aM ((Y 2<|.head _).trans ag) ((Y 3<|.tail _<|.head _).trans ag) aA (qf ao<|NY ak hk<|jT.1<|of_decide_eq_false ax))
 obtain ⟨rfl,am,rfl⟩:=dE;have am:width (r.getD 0 [])≠0:=of_decide_eq_true am;refine nl<|tn<|dl _ _<|sq fun es dn=>rg ag<|p (a8 (.pointer<|some ⟨A,0,none⟩) ag)<|p mv<|p (bN ee ag ag)<|p (fa Lw ag)<|p (ld bL ag<|(bo bd).trans ag)<|p (bT ag ag) ?_;refine eP ag (et jo (jv A n _ 111 ej ab.dH aM) ag fun v79 ay dF=> ?_) (fun c w' ae aS Y=>by
  obtain ⟨rfl,ax,rfl⟩:=ae;exact tP ag aM ((Y 2<|.head _).trans ag) ((Y 3<|.tail _<|.head _).trans ag) aA (qf ao<|NZ ak hk am fun h=>of_decide_eq_false ax<|by rw [h]))
 obtain ⟨rfl,ap,rfl⟩:=dF;have ap:r.length=width (r.getD 0 []):=by have :=of_decide_eq_true ap; omega
 refine nl<|tn<|dn _ _<|sq fun ev ck=> ?_;obtain ⟨e3,d3,d4⟩:=ab.sm;have C:(fun w'=>Wk ay w') ay.drew:=(Md.refl _ _).drew;refine cj (fun w'=>Wk ay w') ag wide C<|hp 0 ag au (fun _ _=>a8 (.pointer<|some ⟨A,0,none⟩) ag) C<|hp 1 ag au (fun _ _=>fa Lw ag) C<|hp 2 ag au (fun w' J=>ld bL ag<|Wk.a7 J<|(bo bd).trans ag) C<|hp 3 ag au (fun _ _=>bT ag ag) C<|hp 4 ag au (fun _ _=>mv) C<|iP (t:=84) ag (fun a4=> ?_) fun a4=> ?_;refine qp 5 ag au ag ag ag ag C<|qp 6 ag au ag ag ag ag C<|qp 7 ag au ag ag ag ag C<|qp 8 ag au ag ag ag ag C<|qp 9 ag au ag ag ag ag C<|qp 10 ag au ag ag ag ag C<|qp 11 ag au ag ag ag ag C<|qp 12 ag au ag ag ag ag C<|qp 13 ag au ag ag ag ag C<|hp 14 ag au (fun _ _=>bI ag) C ?_;refine vt 15 ag au ag (et jo (jv A n _ 112 ay.drew (Wk.a7 C ab.dH) aM) ag fun ef aH bA=> ?_) (fun c w' ae aS Y=>by
  obtain ⟨rfl,ax,rfl⟩:=ae
  first
   | exact absurd ax aM
   | exact tP rfl aM ((Y 2<|.head _).trans rfl) ((Y 3<|.tail _<|.head _).trans rfl) (aA.md Wk.dr) (qf ao<|FI ak hk am ap (fun h=>a4<|by rw [h]; rfl)<|jT.1 fun h=>of_decide_eq_false ax<|by rw [s8.2 h]; rfl))
 obtain ⟨rfl,b7,a6⟩:=bA;have aD:width (r.getD 0 [])=2→r.getD 0 []∉seen:=by
  first
   | exact fun h=>absurd a4 aj
   | exact fun _=>s8.1<|by have :=of_decide_eq_true b7; omega
 have E:Wk ay aH:=by rw [a6]; exact Wk.dr
 obtain ⟨d8,bQ,bM⟩:=Mh am;obtain ⟨cR,b5,bG,bK⟩:=Ml w.heap.size (⟨A,I,Z,aa,O,(bU s).length+1⟩:dI) F rest n seen r w.heap.size b9 c1 aH ⟨_,_,az.wk E,ab.wk E,ce⟩ (aP.wk E) b3.2.2 ap bg aD aj bQ;have bO:=bM _ _ b5;have bB:(fun w'=>Wk ay w') aH:=by rw [a6]; exact C
 refine ⟨bB,?_⟩;refine hn au<|tn<|ck _ _<|sq fun cN bq=>rg ag<|p (fa Lx ag)<|p (ld HP ag<|(bo<|Wk.aW E bd).trans<|congrArg some bO)<|p (a8 (.pointer<|some ⟨A,0,none⟩) ag)<|p mv ?_;refine eP ag (PK bG ag bK ag fun ed aF bx=> ?_) (fun c w' ae aS Y=>by
  obtain ⟨l,e,ac,rfl,av⟩:=ae;exact tP ag aM ((Y 2<|.head _).trans ag) ((Y 3<|.tail _<|.head _).trans ag) ((aA.md E).mw (az.wk E) (ab.wk E) av) (qf ao<|FJ ak hk am ap aD ac))
 obtain ⟨rfl,F',rows',ln',ac,⟨cO,bi,aU,ah,aq⟩,av⟩:=bx;have bX:=(aA.md E).mw (az.wk E) (ab.wk E) av;obtain ⟨d9,b0,_⟩:=ab.sm;obtain ⟨ea,b1,_⟩:=ab.tm;obtain ⟨ec,b2,_⟩:=az.cm;have a0:=(aP.wk E).md av<|Wr.ne (e5<|b0.wk E) (e5<|b1.wk E) (e5<|b2.wk E) aM;obtain ⟨fs,a2,a3⟩:=ah.sm;have dM:=wu (a:=r.getD 0 []) (l:=seen);have a1:=FK ak hk am ap aD ac;refine nl<|tn<|bq _ _ ?_;have G:(fun w'=>Wk aF w') aF.drew:=(Md.refl _ _).drew;refine fj (fun w'=>Wk aF w') 9 ag wide G<|lq 0 ag au (fun _ _=>a8 (.pointer<|some ⟨A,0,none⟩) ag) G<|lq 1 ag au (fun _ _=>nc ag) G<|lq 2 ag au (fun _ _=>fa vk ag) G<|lq 3 ag au (fun w' J=>ld uG ag<|Wk.a7 J<|(bo ah.cells).trans ag) G<|lq 4 ag au (fun _ _=>mv) G<|lq 5 ag au (fun _ _=>bh cE ag ag aj<|aR.ok (aR.wk a0.du.2 G)<|bY aj) G<|lq 6 ag au (fun w' J=>ld bW ag<|Wk.a7 J<|cw.get (i:=0) a0.du.2 aj) G<|lq 7 ag au (fun w' J=>mX sS oX jD (dq.md (a2) J id) ag ag (⟨_,ag⟩)<|a3<|r.getD 0 []) G<|lq 8 ag au (fun _ _=>bJ ((seen.count (r.getD 0 [])+1:Nat):Int) ag ag<|bp aj aj) G<|eb 9 ag au au<|tZ sS jD (a2.wk G) ag ag ag (⟨_,ag⟩) fun ba br bv=> ?_;have aC:=jk br;have bz:dP ba w.heap.size (⟨A,I,Z,aa,O,(bU s).length+1⟩:dI) F' bi rows' ln' (seen++ [r.getD 0 []]):=dP.On ah aC bv<|Oo _ a3;have bk:=eu.ms aU ah aC;have bV:=bX.mw aU ah<|gu.ms ah aC;have d1:=sx ac;have G:St ba w.heap.size (⟨A,I,Z,aa,O,(bU s).length+1⟩:dI) F' rows' ln' (seen++ [r.getD 0 []]):=⟨_,_,bk,bz,⟨aq.len,by rw [bP,fE]; omega,aq.row,aq.kd,aq.al⟩⟩
 have b4:=Mk bg ac;have bR:=Ar bf ac;exact fi au<|bn<|tn<|⟨_,by simp only [db]; have :=sx ac; omega,k - 1,F',rows',ln',seen++ [r.getD 0 []],a1.1,a1.2,G,b4,bR,bV,ag,ag⟩
 refine qo 5 ag au ag ag ag (fun _ _=>a8 (.pointer<|some ⟨A,0,none⟩) ag) C<|qo 6 ag au ag ag ag (fun _ _=>nc ag) C<|qo 7 ag au ag ag ag (fun _ _=>fa vk ag) C<|qo 8 ag au ag ag ag (fun w' J=>ld uG ag<|Wk.a7 J<|(bo ab.cells).trans ag) C<|qo 9 ag au ag ag ag (fun _ _=>mv) C<|qo 10 ag au ag ag ag (fun _ _=>bh cE ag ag aj<|aR.ok (aR.wk aP.du.2 C)<|bY aj) C<|qo 11 ag au ag ag ag (fun w' J=>ld bW ag<|Wk.a7 J<|cw.get (i:=0) aP.du.2 aj) C<|qo 12 ag au ag ag ag (fun w' J=>mX sS oX jD (dq.md (d3) J id) ag ag (⟨_,ag⟩)<|d4<|r.getD 0 []) C<|qo 13 ag au ag ag ag (fun _ _=>bT ag ag) C<|hp 14 ag au (fun _ _=>bD ag) C ?_;refine vt 15 ag au ag (et jo (jv A n _ 112 ay.drew (Wk.a7 C ab.dH) aM) ag fun ef aH bA=> ?_) (fun c w' ae aS Y=>by
  obtain ⟨rfl,ax,rfl⟩:=ae
  first
   | exact absurd ax aM
   | exact tP rfl aM ((Y 2<|.head _).trans rfl) ((Y 3<|.tail _<|.head _).trans rfl) (aA.md Wk.dr) (qf ao<|FI ak hk am ap (fun h=>a4<|by rw [h]; rfl)<|jT.1 fun h=>of_decide_eq_false ax<|by rw [s8.2 h]; rfl))
 obtain ⟨rfl,b7,a6⟩:=bA;have aD:width (r.getD 0 [])=2→r.getD 0 []∉seen:=by
  first
   | exact fun h=>absurd a4 aj
   | exact fun _=>s8.1<|by have :=of_decide_eq_true b7; omega
 have E:Wk ay aH:=by rw [a6]; exact Wk.dr
 obtain ⟨d8,bQ,bM⟩:=Mh am;obtain ⟨cR,b5,bG,bK⟩:=Ml w.heap.size (⟨A,I,Z,aa,O,(bU s).length+1⟩:dI) F rest n seen r w.heap.size b9 c1 aH ⟨_,_,az.wk E,ab.wk E,ce⟩ (aP.wk E) b3.2.2 ap bg aD aj bQ;have bO:=bM _ _ b5;have bB:(fun w'=>Wk ay w') aH:=by rw [a6]; exact C
 refine ⟨bB,?_⟩;refine hn au<|tn<|ck _ _<|sq fun cN bq=>rg ag<|p (fa Lx ag)<|p (ld HP ag<|(bo<|Wk.aW E bd).trans<|congrArg some bO)<|p (a8 (.pointer<|some ⟨A,0,none⟩) ag)<|p mv ?_;refine eP ag (PK bG ag bK ag fun ed aF bx=> ?_) (fun c w' ae aS Y=>by
  obtain ⟨l,e,ac,rfl,av⟩:=ae;exact tP ag aM ((Y 2<|.head _).trans ag) ((Y 3<|.tail _<|.head _).trans ag) ((aA.md E).mw (az.wk E) (ab.wk E) av) (qf ao<|FJ ak hk am ap aD ac))
 obtain ⟨rfl,F',rows',ln',ac,⟨cO,bi,aU,ah,aq⟩,av⟩:=bx;have bX:=(aA.md E).mw (az.wk E) (ab.wk E) av;obtain ⟨d9,b0,_⟩:=ab.sm;obtain ⟨ea,b1,_⟩:=ab.tm;obtain ⟨ec,b2,_⟩:=az.cm;have a0:=(aP.wk E).md av<|Wr.ne (e5<|b0.wk E) (e5<|b1.wk E) (e5<|b2.wk E) aM;obtain ⟨fs,a2,a3⟩:=ah.sm;have dM:=wu (a:=r.getD 0 []) (l:=seen);have a1:=FK ak hk am ap aD ac;refine nl<|tn<|bq _ _ ?_;have G:(fun w'=>Wk aF w') aF.drew:=(Md.refl _ _).drew;refine fj (fun w'=>Wk aF w') 9 ag wide G<|lq 0 ag au (fun _ _=>a8 (.pointer<|some ⟨A,0,none⟩) ag) G<|lq 1 ag au (fun _ _=>nc ag) G<|lq 2 ag au (fun _ _=>fa vk ag) G<|lq 3 ag au (fun w' J=>ld uG ag<|Wk.a7 J<|(bo ah.cells).trans ag) G<|lq 4 ag au (fun _ _=>mv) G<|lq 5 ag au (fun _ _=>bh cE ag ag aj<|aR.ok (aR.wk a0.du.2 G)<|bY aj) G<|lq 6 ag au (fun w' J=>ld bW ag<|Wk.a7 J<|cw.get (i:=0) a0.du.2 aj) G<|lq 7 ag au (fun w' J=>mX sS oX jD (dq.md (a2) J id) ag ag (⟨_,ag⟩)<|a3<|r.getD 0 []) G<|lq 8 ag au (fun _ _=>bJ ((seen.count (r.getD 0 [])+1:Nat):Int) ag ag<|bp aj aj) G<|eb 9 ag au au<|tZ sS jD (a2.wk G) ag ag ag (⟨_,ag⟩) fun ba br bv=> ?_;have aC:=jk br;have bz:dP ba w.heap.size (⟨A,I,Z,aa,O,(bU s).length+1⟩:dI) F' bi rows' ln' (seen++ [r.getD 0 []]):=dP.On ah aC bv<|Oo _ a3;have bk:=eu.ms aU ah aC;have bV:=bX.mw aU ah<|gu.ms ah aC;have d1:=sx ac;have G:St ba w.heap.size (⟨A,I,Z,aa,O,(bU s).length+1⟩:dI) F' rows' ln' (seen++ [r.getD 0 []]):=⟨_,_,bk,bz,⟨aq.len,by rw [bP,fE]; omega,aq.row,aq.kd,aq.al⟩⟩
 have b4:=Mk bg ac;have bR:=Ar bf ac;exact fi au<|bn<|tn<|⟨_,by simp only [db]; have :=sx ac; omega,k - 1,F',rows',ln',seen++ [r.getD 0 []],a1.1,a1.2,G,b4,bR,bV,ag,ag⟩
 obtain rfl :rows= []:=by
  cases rows with
  | nil=>rfl
  | cons q rest=>exact absurd (by simp only [db]; omega) bF
 rw [yc] at ak;refine ext<|te _<|te _<|be<|jF<|jw<|j6<|rg ag<|p (a8 (.pointer<|some ⟨A,0,none⟩) ag) ?_;refine eP ag (et Ug (UE w.heap.size (⟨A,I,Z,aa,O,(bU s).length+1⟩:dI) F [] ln seen a9 ⟨_,_,Y,aw,aL⟩ bf.2) ag fun e4 cI dA=> ?_) (fun c w' ae aS ch=>by
  obtain ⟨q,bZ,rfl,bs⟩:=ae;exact tP ag aM ((ch 2<|.head _).trans ag) ((ch 3<|.tail _<|.head _).trans ag) (bS.mw Y aw bs) (Cm ao ak.symm bZ))
 obtain ⟨rfl,dQ,⟨cP,ew,e2,ci,dD⟩,bs⟩:=dA;have aQ:=bS.mw Y aw bs;have eL:=aQ.lo;refine nl<|jF<|jw<|j6<|rg ag<|p (a8 (.pointer<|some ⟨A,0,none⟩) ag)<|p (nc ag)<|p (fa jg ag)<|p (ld gP ag<|(bo dD.cells).trans ag)<|p (dt (ps:= []) (L:= [.int .i64 0,.int .i64 0,.int .i64 0]) vJ ag<|ag)<|e<|dB Du ag ag (v:= .pointer<|some ⟨I,0,none⟩) ag aQ.c2 aM fun fc cn cW=>e<|gS kz ag ag ag ag (cn.aW aQ.c3 fun h=>by omega) aM fun eg co cX=> ?_;have cp:Md (fun k=>k=aI∨k=aK) cI eg:=(cn.mono fun _ _ h=> .inl h).trans' co fun _ _ h=> .inr h;refine nl<|jF<|FV ?_;have cv:TF cI [90,47] (fun k=>k=aI∨k=aK):=TF.or (TF.eq (dS aQ.c2) aM)<|TF.eq (dS aQ.c3) aM;obtain ⟨fm,dR,_⟩:=ci.cm;have dh:=ci.md cp cv aM<|cv.no (e5 dR) aM;exact abK ag aM ag ag (co.aW cW fun h=>by omega) cX ag (fun w' hm=>by
  unfold qV;rw [HN ao ak.symm dQ];exact ⟨⟨I,O,cP,ag,dh.wk hm,⟨seen,aL⟩,bf⟩,(aQ.wk.trans' cp fun k hk h=>by omega).trans hm⟩)
end Go.Hb.iY
end
namespace Go.Hb.ir
def mA (F:aX) (V:fN):List Value:= [.int .i64 (F.kind:Nat),str F.tA,str F.tr,bA (F.sp.getD 0 0),bA (F.sp.getD 1 0),bA (F.sp.getD 2 0),bA (F.sp.getD 3 0),bA (F.sp.getD 4 0),.int .i64 (F.least:Nat),V.v9,V.v10,V.v11,V.v12]
structure qQ (w:World) (B:Nat) (F:aX) (V:fN):Prop where
 o9:bB w B 189 2 V.v9 F.dF.length (lQ F.dF)
 fD:bB w B 51 1 V.v10 F.aliases.length V.sa
 al:eU w B 95 V.sa F.aliases
 eS:bB w B 192 5 V.v11 F.bG.length (oF F.bG)
 dR:bB w B 134 7 V.v12 F.rules.length (iQ<|F.rules.zip V.rn)
 nx:eU w B 95 V.rn (F.rules.map (·.next))
theorem zd {w:World} {B e:Nat} {vs:List Value} {E:List (List Nat)} (h:eU w B e vs E):vs.all gI=true :=by
 rw [mK];intro v C;obtain ⟨i,hi⟩:=ur C;have h1:=(fS.1 hi).1;obtain ⟨u,hu,A⟩:=eU.get h (i:=i)<|by rw [← h.1]; exact h1
 rw [hi] at hu; cases hu;obtain ⟨a,c,rfl⟩:=A.slice; rfl
theorem acf {w:World} {B e:Nat} {rs:List dd} {vs:List Value} {E:List (List Nat)} (h:eU w B e vs E):(iQ<|rs.zip vs).all gI=true :=by
 rw [mK];intro v A;obtain ⟨q,C,A⟩:=List.mem_flatMap.1 A;have h1:=mK.1 (zd h) q.2 (List.of_mem_zip C).2;simp only [fk,eL,wH,or_false] at A;rcases A with rfl | rfl | rfl | rfl | rfl | rfl | rfl <;> first | rfl | exact h1
theorem acg {rs:List dd} {vs:List Value} {i:Nat} {v:Value} (hi:i < rs.length) (G:i < vs.length):(iQ<|rs.zip vs).set (i*7 +6) v=iQ (rs.zip<|vs.set i v):=by
 obtain ⟨r,E⟩:∃ r,rs[i]? =some r:=⟨_,cz hi⟩
 obtain ⟨u,hu⟩:∃ u,vs[i]? =some u:=⟨_,cz G⟩
 have I:(rs.zip vs)[i]? =some (r,u):=j9.2 ⟨E,hu⟩;have Y:rs.zip (vs.set i v)=(rs.zip vs).set i (r,v):=by
  apply qI;intro j;rw [lW];by_cases C:i=j
  · subst C;rw [if_pos rfl,if_pos (fS.1 I).1];exact j9.2 ⟨E,by simp [G]⟩
  · rw [if_neg C];cases h1:(rs.zip vs)[j]? with
    | none=>
      rw [List.getElem?_eq_none_iff,B9] at h1 ⊢;rw [yQ]; exact h1
    | some q=>
      have h2:=j9.1 h1;exact j9.2 ⟨h2.1,by rw [lW,if_neg C]; exact h2.2⟩
 have Z:(rs.zip vs).length=min rs.length vs.length:=B9;have A:(iQ<|rs.zip vs).length=(rs.zip vs).length*7:=mV (f:=fk) (m:=7) (fun _=>rfl) _;rw [Y,show iQ ((rs.zip vs).set i (r,v))=(iQ<|rs.zip vs).take (i*7)++fk (r,v)++(iQ<|rs.zip vs).drop (i*7 +7) from Ll (f:=fk) (m:=7) (fun _=>rfl) _ aj];apply qI;intro j;have J:=fun c A=>zZ (f:=fk) (m:=7) (fun _=>rfl) (c:=c) I A;have O:∀ c,c < 7→(iQ<|rs.zip vs)[i*7 +c]? =(fk (r,u))[c]? :=fun c h=>J c h;have V:((iQ<|rs.zip vs).take<|i*7).length=i*7:=by rw [dM,A]; omega
 rw [lW];by_cases h1:j < i*7
 · rw [if_neg aj,e6,nq aj,List.getElem?_take,if_pos h1]
 · rw [e6,oh aj,V];by_cases h2:j < i*7 +7
   · rw [nq (by show _ < 7; omega)];obtain ⟨c,rfl⟩:∃ c,j=i*7 +c:=⟨j - i*7,aj⟩
     have h3:c < 7:=aj;rw [O c h3,show i*7 +c - i*7=c by omega]
     match c,h3 with
     | 0,_=>rw [if_neg aj]; rfl
     | 1,_=>rw [if_neg aj]; rfl
     | 2,_=>rw [if_neg aj]; rfl
     | 3,_=>rw [if_neg aj]; rfl
     | 4,_=>rw [if_neg aj]; rfl
     | 5,_=>rw [if_neg aj]; rfl
     | 6,_=>rw [if_pos rfl,if_pos aj]; rfl
   · rw [if_neg aj,oh (by show 7≤_; omega),show (fk (r,v)).length=7 from rfl,List.getElem?_drop];congr 1; omega
theorem oV {l:List (dd×Value)} {i:Nat} {q:dd×Value} (h:l[i]? =some q):iQ l≠[]:=fun h2=>by
 have h3:(iQ l).length=l.length*7:=mV (f:=fk) (m:=7) (fun _=>rfl) _;have h4:=(fS.1 h).1;rw [h2] at h3;have h5:0=l.length*7:=h3;omega
theorem CC {F:aX} {V:fN} (I:V.v9.oneCell'=true) (C:V.v10.oneCell'=true) (E:V.v11.oneCell'=true) (G:V.v12.oneCell'=true):(mA F V).all gI=true :=by
 rw [mK];intro v A;simp only [mA,eL,wH,or_false] at A;rcases A with rfl | rfl | rfl | rfl | rfl | rfl | rfl | rfl | rfl | rfl | rfl | rfl | rfl <;> first | rfl | assumption
theorem RZ {w:World} {B fb mc:Nat} {F:aX} {V:fN} (h:eu w B fb mc F V):(mA F V).all gI=true :=CC (fG h.o9) (fG h.fD) (fG h.eS)<|fG h.dR
theorem DA {α:Type} {l m:List α} {i:Nat} (h:l.drop i=m.drop i):l[i]? =m[i]? :=by
 have h1:=congrArg (·[0]?) h;simpa using h1
theorem F4 {α:Type} {l:List α} {i:Nat} {x:α} (h:i < l.length):(l.set i x).take (i+1)=l.take i++ [x]:=by
 rw [List.take_add_one,List.take_set_of_le (cU i)]; simp [h]
theorem set_drop {α:Type} {l m:List α} {i:Nat} {x:α} (h:l.drop i=m.drop i):(l.set i x).drop (i+1)=m.drop (i+1):=by
 rw [List.drop_set_of_lt (Nat.lt_succ_self i),show i.succ=i+1 from rfl];simpa [List.drop_drop] using congrArg (List.drop 1) h
theorem H0 {w:World} {B e i:Nat} {vs:List Value} {A:List (List Nat)} {v:Value} (h:eU w B e (vs.take i) (A.take i)) (hi:i < A.length) (E:i < vs.length) (C:Tg w B e (A.getD i []).length v ((A.getD i []).map bA)):eU w B e ((vs.set i v).take<|i+1) (A.take<|i+1):=by
 rw [F4 E,fX A i [] hi]; exact h.snoc C
theorem UY (a:Option Addr) (n c:Nat) (xs:List Value) (w:World) (Y:aR w.heap a xs) (ai:xs.length=n*2) (ab:a=none→n=0) (h1:xs.all gI=true) (hn:n≤1048576):
 bw aE 80 (bl [.slice a n c]) w (fun am w'=>bB w' w.heap.size 189 2 am n xs∧Wk w w'):=by
 refine enter func80 ag ntmps80 ag<|ak fun I=>az<|I<|aH fun J=>ak fun O=>aw (.slice a n c)<|p (sh u97 ag ag)<|nl<|O<|cb ag (fun E=> ?_) fun E=> ?_;have ac:a=none:=by simpa using E
 refine ak fun A=>az<|A<|rt<|tr<|ba ag ?_;have ae:=ab ac;subst ae;obtain rfl :=fY (show xs.length=0 by omega);exact ⟨dC _ _ _ _,Md.refl _ _⟩;refine aT<|J<|ak fun A=>e<|mQ Be fun aq ay au C V=> ?_;have G:=V w.heap.size aj;refine aw (.slice a n c)<|e<|ap Be (G) ag (by have :=C.size; omega) ag (Y.wk C.md) (ai) (h1) aj aj fun an ao ah aa ax av=> ?_;have Z:=Wk.own C.md G aa<|cU _;refine az<|A<|rt<|ba ag ?_;have al:bB ao w.heap.size 189 2 an n xs:=by simpa using ah
 exact ⟨al,Z⟩
theorem UX (v:Value) (n:Nat) (xs:List Value) (w:World) (E:Rd w.heap v n 2 xs) (h1:xs.all gI=true) (hn:n≤1048576):bw aE 80 [v].toArray w (fun v w'=>bB w' w.heap.size 189 2 v n xs∧Wk w w'):=by
 obtain ⟨a,c,rfl,A,G,C⟩:=E;exact UY a n c xs w A G C h1 hn
theorem UQ (a:Option Addr) (n c:Nat) (xs:List Value) (w:World) (Y:aR w.heap a xs) (ai:xs.length=n*5) (ab:a=none→n=0) (h1:xs.all gI=true) (hn:n≤1048576):
 bw aE 81 (bl [.slice a n c]) w (fun am w'=>bB w' w.heap.size 192 5 am n xs∧Wk w w'):=by
 refine enter func81 ag ntmps81 ag<|ak fun I=>az<|I<|aH fun J=>ak fun O=>aw (.slice a n c)<|p (sh Pm ag ag)<|nl<|O<|cb ag (fun E=> ?_) fun E=> ?_;have ac:a=none:=by simpa using E
 refine ak fun A=>az<|A<|rt<|tr<|ba ag ?_;have ae:=ab ac;subst ae;obtain rfl :=fY (show xs.length=0 by omega);exact ⟨dC _ _ _ _,Md.refl _ _⟩;refine aT<|J<|ak fun A=>e<|mQ Bg fun aq ay au C V=> ?_;have G:=V w.heap.size aj;refine aw (.slice a n c)<|e<|ap Bg (G) ag (by have :=C.size; omega) ag (Y.wk C.md) (ai) (h1) aj aj fun an ao ah aa ax av=> ?_;have Z:=Wk.own C.md G aa<|cU _;refine az<|A<|rt<|ba ag ?_;have al:bB ao w.heap.size 192 5 an n xs:=by simpa using ah
 exact ⟨al,Z⟩
theorem UP (v:Value) (n:Nat) (xs:List Value) (w:World) (E:Rd w.heap v n 5 xs) (h1:xs.all gI=true) (hn:n≤1048576):bw aE 81 [v].toArray w (fun v w'=>bB w' w.heap.size 192 5 v n xs∧Wk w w'):=by
 obtain ⟨a,c,rfl,A,G,C⟩:=E;exact UQ a n c xs w A G C h1 hn
theorem U2 (a:Option Addr) (n c:Nat) (xs:List Value) (w:World) (Y:aR w.heap a xs) (ai:xs.length=n*1) (ab:a=none→n=0) (h1:xs.all gI=true) (hn:n≤1048576):
 bw aE 82 (bl [.slice a n c]) w (fun am w'=>bB w' w.heap.size 51 1 am n xs∧Wk w w'):=by
 refine enter func82 ag ntmps82 ag<|ak fun I=>az<|I<|aH fun J=>ak fun O=>aw (.slice a n c)<|p (sh BA ag ag)<|nl<|O<|cb ag (fun E=> ?_) fun E=> ?_;have ac:a=none:=by simpa using E
 refine ak fun A=>az<|A<|rt<|tr<|ba ag ?_;have ae:=ab ac;subst ae;obtain rfl :=fY (show xs.length=0 by omega);exact ⟨dC _ _ _ _,Md.refl _ _⟩;refine aT<|J<|ak fun A=>e<|mQ Bf fun aq ay au C V=> ?_;have G:=V w.heap.size aj;refine aw (.slice a n c)<|e<|ap Bf (G) ag (by have :=C.size; omega) ag (Y.wk C.md) (ai) (h1) aj aj fun an ao ah aa ax av=> ?_;have Z:=Wk.own C.md G aa<|cU _;refine az<|A<|rt<|ba ag ?_;have al:bB ao w.heap.size 51 1 an n xs:=by simpa using ah
 exact ⟨al,Z⟩
theorem U1 (v:Value) (n:Nat) (xs:List Value) (w:World) (E:Rd w.heap v n 1 xs) (h1:xs.all gI=true) (hn:n≤1048576):bw aE 82 [v].toArray w (fun v w'=>bB w' w.heap.size 51 1 v n xs∧Wk w w'):=by
 obtain ⟨a,c,rfl,A,G,C⟩:=E;exact U2 a n c xs w A G C h1 hn
theorem U0 (a:Option Addr) (n c:Nat) (xs:List Value) (w:World) (Y:aR w.heap a xs) (ai:xs.length=n*7) (ab:a=none→n=0) (h1:xs.all gI=true) (hn:n≤1048576):
 bw aE 83 (bl [.slice a n c]) w (fun am w'=>bB w' w.heap.size 134 7 am n xs∧Wk w w'):=by
 refine enter func83 ag ntmps83 ag<|ak fun I=>az<|I<|aH fun J=>ak fun O=>aw (.slice a n c)<|p (sh sR ag ag)<|nl<|O<|cb ag (fun E=> ?_) fun E=> ?_;have ac:a=none:=by simpa using E
 refine ak fun A=>az<|A<|rt<|tr<|ba ag ?_;have ae:=ab ac;subst ae;obtain rfl :=fY (show xs.length=0 by omega);exact ⟨dC _ _ _ _,Md.refl _ _⟩;refine aT<|J<|ak fun A=>e<|mQ A6 fun aq ay au C V=> ?_;have G:=V w.heap.size aj;refine aw (.slice a n c)<|e<|ap A6 (G) ag (by have :=C.size; omega) ag (Y.wk C.md) (ai) (h1) aj aj fun an ao ah aa ax av=> ?_;have Z:=Wk.own C.md G aa<|cU _;refine az<|A<|rt<|ba ag ?_;have al:bB ao w.heap.size 134 7 an n xs:=by simpa using ah
 exact ⟨al,Z⟩
theorem UZ (v:Value) (n:Nat) (xs:List Value) (w:World) (E:Rd w.heap v n 7 xs) (h1:xs.all gI=true) (hn:n≤1048576):bw aE 83 [v].toArray w (fun v w'=>bB w' w.heap.size 134 7 v n xs∧Wk w w'):=by
 obtain ⟨a,c,rfl,A,G,C⟩:=E;exact U0 a n c xs w A G C h1 hn
theorem UT (a:Option Addr) (n c:Nat) (xs:List Value) (w:World) (Y:aR w.heap a xs) (ai:xs.length=n*2) (ab:a=none→n=0) (h1:xs.all gI=true) (hn:n≤1048576):
 bw aE 84 (bl [.slice a n c]) w (fun am w'=>bB w' w.heap.size 53 2 am n xs∧Wk w w'):=by
 refine enter func84 ag ntmps84 ag<|ak fun I=>az<|I<|aH fun J=>ak fun O=>aw (.slice a n c)<|p (sh Bu ag ag)<|nl<|O<|cb ag (fun E=> ?_) fun E=> ?_;have ac:a=none:=by simpa using E
 refine ak fun A=>az<|A<|rt<|tr<|ba ag ?_;have ae:=ab ac;subst ae;obtain rfl :=fY (show xs.length=0 by omega);exact ⟨dC _ _ _ _,Md.refl _ _⟩;refine aT<|J<|ak fun A=>e<|mQ A7 fun aq ay au C V=> ?_;have G:=V w.heap.size aj;refine aw (.slice a n c)<|e<|ap A7 (G) ag (by have :=C.size; omega) ag (Y.wk C.md) (ai) (h1) aj aj fun an ao ah aa ax av=> ?_;have Z:=Wk.own C.md G aa<|cU _;refine az<|A<|rt<|ba ag ?_;have al:bB ao w.heap.size 53 2 an n xs:=by simpa using ah
 exact ⟨al,Z⟩
theorem US (v:Value) (n:Nat) (xs:List Value) (w:World) (E:Rd w.heap v n 2 xs) (h1:xs.all gI=true) (hn:n≤1048576):bw aE 84 [v].toArray w (fun v w'=>bB w' w.heap.size 53 2 v n xs∧Wk w w'):=by
 obtain ⟨a,c,rfl,A,G,C⟩:=E;exact UT a n c xs w A G C h1 hn
theorem UW (a:Option Addr) (n c:Nat) (xs:List Value) (w:World) (Y:aR w.heap a xs) (ai:xs.length=n*1) (ab:a=none→n=0) (h1:xs.all gI=true) (hn:n≤1048576):
 bw aE 215 (bl [.slice a n c]) w (fun am w'=>bB w' w.heap.size 3 1 am n xs∧Wk w w'):=by
 refine enter func215 ag ntmps215 ag<|ak fun I=>az<|I<|aH fun J=>ak fun O=>aw (.slice a n c)<|p (sh mI ag ag)<|nl<|O<|cb ag (fun E=> ?_) fun E=> ?_;have ac:a=none:=by simpa using E
 refine ak fun A=>az<|A<|rt<|tr<|ba ag ?_;have ae:=ab ac;subst ae;obtain rfl :=fY (show xs.length=0 by omega);exact ⟨dC _ _ _ _,Md.refl _ _⟩;refine aT<|J<|ak fun A=>e<|mQ lR fun aq ay au C V=> ?_;have G:=V w.heap.size aj;refine aw (.slice a n c)<|e<|ap lR (G) ag (by have :=C.size; omega) ag (Y.wk C.md) (ai) (h1) aj aj fun an ao ah aa ax av=> ?_;have Z:=Wk.own C.md G aa<|cU _;refine az<|A<|rt<|ba ag ?_;have al:bB ao w.heap.size 3 1 an n xs:=by simpa using ah
 exact ⟨al,Z⟩
theorem UU (v:Value) (n:Nat) (xs:List Value) (w:World) (E:Rd w.heap v n 1 xs) (h1:xs.all gI=true) (hn:n≤1048576):bw aE 215 [v].toArray w (fun v w'=>bB w' w.heap.size 3 1 v n xs∧Wk w w'):=by
 obtain ⟨a,c,rfl,A,G,C⟩:=E;exact UW a n c xs w A G C h1 hn
theorem y1 (B fb mc:Nat) (F:aX) (V:fN) (w:World) (aJ:eu w B fb mc F V) (dG:F.dF.length+F.aliases.length+F.bG.length+F.rules.length≤70000) (bY:Nx F):
 bw aE 41 (bl [a6 fb]) w (fun v w'=>(∃ bu,v= .agg (mA F bu).toArray∧qQ w' w.heap.size F bu)∧Wk w w'):=by
 refine enter func41 ag ntmps41 ag<|ak fun ct=>e<|hU PM fun a9 ae dH bd bz=> ?_;have dM:=bd.size;have am:=aJ.wk bd.md;refine nl<|ct<|aH fun cB=>ak fun cC=>aw (a6 fb)<|p (lJ yr ag ag)<|nl<|cC<|cf (ag)<|aT<|cB<|ak fun cD=>aw (a6 fb)<|p (nc ag) ?_;refine p (fa iD ag)<|p (dp Cq ag (ag) (show ∀ j,j < 13→Hb.a7 ae.heap fb (0 +j)=(mA F V)[j]? from fun j aP=>(bo am.cells).trans<|by match j,aP with | 0,_=>rfl | 1,_=>rfl | 2,_=>rfl | 3,_=>rfl | 4,_=>rfl | 5,_=>rfl | 6,_=>rfl | 7,_=>rfl | 8,_=>rfl | 9,_=>rfl | 10,_=>rfl | 11,_=>rfl | 12,_=>rfl))<|e<|hU PM fun ac G dI bO cN=> ?_;have dP:=bO.size;refine e<|gS Dr ag ag ag (RZ am) cN aM fun a0 bL cO=> ?_;have bC:Wk ae a0:=bO.md.trans' bL fun q A h=>by omega
 have dQ:=bL.size;have cY:=am.wk bC;have aN:a0.heap[ac]? =some (.cells (mA F ⟨V.v9,V.v10,V.v11,V.v12,V.sa,V.rn⟩).toArray 102 (0,0)):=cO;refine nl<|cD<|ak fun cE=>p (fa z8 ag)<|p (ld HU ag<|(bo aN).trans ag)<|e<|cl Uj (UX V.v9 F.dF.length (lQ F.dF) a0 (Rd.kj cY.o9) (DV (fun _=>rfl) _) aj) ag ?_;rintro aa ck ⟨b1,ba⟩;have dL:=ba.size;have b3:=eT b1 (show G.heap.size≤a0.heap.size by omega);refine p (fa z8 ag)<|e<|dB JU ag ag (v:=aa) (fG b1) (ba.aW aN) (by show _ < 13; omega) fun a1 bb cP=> ?_;have bE:Wk ae a1:=(bC.trans ba).trans' bb fun q A h=>by omega
 have dS:=bb.size;have cZ:=am.wk bE;have b4:=dz b3 bb fun q A h=>by have :=(dK b3 A).1; omega
 have bT:a1.heap[ac]? =some (.cells (mA F ⟨aa,V.v10,V.v11,V.v12,V.sa,V.rn⟩).toArray 102 (0,0)):=cP;refine nl<|cE<|ak fun cF=>p (fa vc ag)<|p (ld y7 ag<|(bo bT).trans ag)<|e<|cl Uk (UP V.v11 F.bG.length (oF F.bG) a1 (Rd.kj cZ.eS) (DV (fun _=>rfl) _) aj) ag ?_;rintro v20 dZ ⟨b6,aB⟩;have dN:=aB.size;have b7:=eT b6 (show G.heap.size≤a1.heap.size by omega);refine p (fa vc ag)<|e<|dB JW ag ag (v:=v20) (fG b6) (aB.aW bT) (by show _ < 13; omega) fun a2 aL cQ=> ?_;have bI:Wk ae a2:=(bE.trans aB).trans' aL fun q A h=>by omega
 have dU:=aL.size;have bK:=am.wk bI;have b5:=dz (bc b4 aB) aL fun q A h=>by have :=(dK (bc b4 aB) A).1; omega
 have b8:=dz b7 aL fun q A h=>by have :=(dK b7 A).1; omega
 have bU:a2.heap[ac]? =some (.cells (mA F ⟨aa,V.v10,v20,V.v12,V.sa,V.rn⟩).toArray 102 (0,0)):=cQ;refine nl<|cF<|ak fun cG=>p (fa q9 ag)<|p (ld tt ag<|(bo bU).trans ag)<|e<|cl Ul (U1 V.v10 F.aliases.length V.sa a2 (Rd.kj bK.fD) (zd bK.al) aj) ag ?_;rintro v24 d0 ⟨b9,ao⟩;have dO:=ao.size;have ca:=eT b9 (show G.heap.size≤a2.heap.size by omega);refine p (fa q9 ag)<|e<|dB JV ag ag (v:=v24) (fG b9) (ao.aW bU) (by show _ < 13; omega) fun cn aD cS=> ?_;have cX:Wk ae cn:=(bI.trans ao).trans' aD fun q A h=>by omega
 have dV:=aD.size;have dl:=dz (bc b5 ao) aD fun q A h=>by have :=(dK (bc b5 ao) A).1; omega
 have df:=dz (bc b8 ao) aD fun q A h=>by have :=(dK (bc b8 ao) A).1; omega
 have bZ:=dz ca aD fun q A h=>by have :=(dK ca A).1; omega
 have bV:cn.heap[ac]? =some (.cells (mA F ⟨aa,v24,v20,V.v12,V.sa,V.rn⟩).toArray 102 (0,0)):=cS;obtain ⟨ah,l8,rfl⟩:=cM bZ;have dx:=aJ.al.1;refine nl<|cG<|aH fun cH=>ak fun cI=>p (fa q9 ag)<|p (ld tt ag<|(bo bV).trans ag)<|p (bN BA ag ag)<|p mv<|nl<|cI<|aW<|lp (fun aA cp I=> ∃ (i:Nat) (sa:List Value),(i≤F.aliases.length)∧(sa.length=F.aliases.length)∧(sa.drop i=V.sa.drop i)∧(eU I G.heap.size 95 (sa.take i)<|F.aliases.take i)∧(bB I G.heap.size 51 1 (.slice ah F.aliases.length l8) F.aliases.length<|sa)∧(bB I G.heap.size 189 2 (aa) F.dF.length<|lQ F.dF)∧(bB I G.heap.size 192 5 (v20) F.bG.length<|oF F.bG)∧(I.heap[ac]? =some (.cells (mA F ⟨aa,.slice ah F.aliases.length l8,v20,V.v12,V.sa,V.rn⟩).toArray 102 (0,0)))∧(Wk ae I)∧(G.heap.size≤I.heap.size)∧(Sl cp [(2,a6 a9),(3,a6 ac),(27,.slice ah F.aliases.length l8),(28,ay (F.aliases.length)),(29,ay i)])∧(F.aliases.length - i=aA)) _ ⟨0,V.sa,aj,dx,ag,(eU.nil _ _ _),bZ,dl,df,bV,cX,(aj),ag,ag⟩ ?_;rintro aA cp I ⟨i,sa,hi,aG,cg,bm,Z,aY,aU,aF,aI,dW,dv,rfl⟩;refine bH dv<|ak fun cu=>p (lt ag ag)<|nl<|cu<|aH fun cv=>cd ag (fun aN=> ?_) fun aN=> ?_;refine aT<|cv<|aH fun a3=>aW<|aH fun a4=> ?_;obtain ⟨dY,dy,bi⟩:=eU.get (am.wk aI).al (show i < F.aliases.length by omega);obtain ⟨cJ,ci,rfl⟩:=bi.slice;refine rg ag<|aw (ay i)<|p (bh DI ag ag aj<|aR.ok ((bg Z).2) fun h=>by rw [h] at aG; simp at aG; omega)<|p (ld oA ag<|aR.gQ (bg Z).2<|(DA cg).trans dy)<|p (cV (ay i) ag)<|az<|a4 ?_;have an:(fun w'=>Wk I w') I.drew:=(Md.refl _ _).drew;refine fj (fun w'=>Wk I w') 6 ag wide an<|eR 0 ag (fa q9 ag) an<|lq 1 ag au (fun w' av=>ld tt ag<|Wk.a7 av<|(bo aF).trans ag) an<|eR 2 ag (a8 (ay i) ag) an<|eR 3 ag (mv) an<|ic 4 ag au<|cl uR (uT cJ (F.aliases.getD i []).length ci ((F.aliases.getD i []).map bA) I.drew (aR.wk bi.du.2 an) (by simp) (fun h=>Tg.vD bi (by simp) h) (uL _)<|by have :=bY.1 _ (ek (d:= []) (show i < F.aliases.length by omega)); omega) ag ?_;rintro dC cm ⟨bq,bD⟩;have J:Wk I cm:=an.trans bD;have c0:=J;have bP:(fun w'=>Wk I w') cm:=an.trans bD;refine ⟨bP,?_⟩;refine eR 5 ag (bh DI ag ag aj<|aR.ok ((bg Z).2) fun h=>by rw [h] at aG; simp at aG; omega) bP<|eb 6 ag au au<|tV (j:=i) (bc Z J) uW ag ag (fG bq) (by simp) aj fun dD ap c9=> ?_;have cT:Wk ae dD:=Wk.own (aI.trans J) (bc Z J) ap aj;have dh:=dz (eT bq (show G.heap.size≤I.heap.size by omega)) ap fun q A=>nT bq (bc Z J) aM A;have c2:=(bm.wk J).md ap<|ji (bc Z J) aM;have dj:=dz (bc aY J) ap fun q A=>nT (bc aY J) (bc Z J) aM A;have dd:=dz (bc aU J) ap fun q A=>nT (bc aU J) (bc Z J) aM A;have c6:=ap.aW (Wk.aW J aF) fun h=>by have :=(dK (bc Z J) h).1; omega
 exact fi au<|bn<|a3<|rg ag<|p (ad ag ag<|cR aj)<|p mv<|nl<|tn<|⟨_,aj,i+1,sa.set i dC,aj,(by rw [yQ]; exact aG),(set_drop cg),(H0 c2 aj aj<|Tg.kj dh),c9,dj,dd,c6,cT,(by have :=c0.size; have :=ap.size; omega),ag,ag⟩
 refine ext<|bj<|bj<|be<|cH<|ak fun a3=>p (fa pM ag)<|p (ld nB ag<|(bo aF).trans ag)<|e<|cl Um (UZ V.v12 F.rules.length (iQ<|F.rules.zip V.rn) I (Rd.kj (am.wk aI).dR) (acf aJ.nx) aj) ag ?_;rintro ch d1 ⟨cb,ab⟩;have dT:=ab.size;have cc:=eT cb (show G.heap.size≤I.heap.size by omega);rw [eK aj,eK aj] at bm;refine p (fa pM ag)<|e<|dB JL ag ag (v:=ch) (fG cb) (Wk.aW ab aF) (by show _ < 13; omega) fun cj aq cK=> ?_;have cU:Wk ae cj:=(aI.trans ab).trans' aq fun q A h=>by omega
 have dJ:=aq.size;have dn:=dz (bc aY ab) aq fun q A h=>by have :=(dK (bc aY ab) A).1; omega
 have dc:=dz (bc Z ab) aq fun q A h=>by have :=(dK (bc Z ab) A).1; omega
 have dg:=dz (bc aU ab) aq fun q A h=>by have :=(dK (bc aU ab) A).1; omega
 have b0:=dz cc aq fun q A h=>by have :=(dK cc A).1; omega
 have c4:=(bm.wk ab).md aq<|gk (Wk.aW ab aF) aM;have bS:cj.heap[ac]? =some (.cells (mA F ⟨aa,.slice ah F.aliases.length l8,v20,ch,V.sa,V.rn⟩).toArray 102 (0,0)):=cK;obtain ⟨a12,ax,rfl⟩:=cM b0;have ds:V.rn.length=F.rules.length:=by have :=aJ.nx.1; rwa [fH] at this
 refine nl<|a3<|aH fun a4=>ak fun cw=>p (fa pM ag)<|p (ld nB ag<|(bo bS).trans ag)<|p (bN sR ag ag)<|p mv<|nl<|cw<|aW<|lp (fun aA cq E=> ∃ (i:Nat) (rn:List Value),(i≤F.rules.length)∧(rn.length=F.rules.length)∧(rn.drop i=V.rn.drop i)∧(eU E G.heap.size 95 (rn.take i)<|(F.rules.map (·.next)).take i)∧(bB E G.heap.size 134 7 (.slice a12 F.rules.length ax) F.rules.length<|iQ<|F.rules.zip rn)∧(bB E G.heap.size 189 2 (aa) F.dF.length<|lQ F.dF)∧(bB E G.heap.size 51 1 (.slice ah F.aliases.length l8) F.aliases.length<|sa)∧(eU E G.heap.size 95 sa F.aliases)∧(bB E G.heap.size 192 5 (v20) F.bG.length<|oF F.bG)∧(E.heap[ac]? =some (.cells (mA F ⟨aa,.slice ah F.aliases.length l8,v20,.slice a12 F.rules.length ax,V.sa,V.rn⟩).toArray 102 (0,0)))∧(Wk ae E)∧(G.heap.size≤E.heap.size)∧(Sl cq [(2,a6 a9),(3,a6 ac),(47,ay (F.rules.length)),(48,ay i)])∧(F.rules.length - i=aA)) _ ⟨0,V.rn,aj,ds,ag,(eU.nil _ _ _),b0,dn,dc,c4,dg,bS,cU,(aj),ag,ag⟩ ?_;rintro aA cq E ⟨i,rn,hi,dt,ce,bp,O,aZ,aS,bQ,aV,aO,aC,dX,dw,rfl⟩;refine bH dw<|ak fun cx=>p (lt ag ag)<|nl<|cx<|aH fun cy=>cd ag (fun c5=> ?_) fun c5=> ?_;refine aT<|cy<|aH fun a5=>aW<|aH fun cA=> ?_;obtain ⟨vn,dA,bk⟩:=eU.get (am.wk aC).nx (show i < (F.rules.map (·.next)).length by rw [fH]; omega);obtain ⟨bv,bx,rfl⟩:=bk.slice;obtain ⟨q,bs⟩:∃ q,F.rules[i]? =some q:=⟨_,cz aj⟩
 have dr:(F.rules.map (·.next)).getD i []=q.next:=by rw [da,gi,bs]; rfl
 have dq:=bY.2 q<|gL bs;rw [← dr] at dq;have bt:(F.rules.zip rn)[i]? =some (q,.slice bv ((F.rules.map (·.next)).getD i []).length bx):=j9.2 ⟨bs,(DA ce).trans dA⟩;refine rg ag<|aw (ay i)<|p (cV (ay i) ag)<|nl<|cA ?_;have Y:(fun w'=>Wk E w') E.drew:=(Md.refl _ _).drew;refine fj (fun w'=>Wk E w') 12 ag wide Y<|bR 0 ag (fa pM ag) Y<|ej 1 ag (fun w' av=>ld nB ag<|Wk.a7 av<|(bo aO).trans ag) Y<|bM 2 ag (ay i) Y<|bR 3 ag (fa pM ag) Y<|ej 4 ag (fun w' av=>ld nB ag<|Wk.a7 av<|(bo aO).trans ag) Y<|bM 5 ag (ay i) Y<|bR 6 ag (bh nH ag ag aj<|aR.ok ((bg O).2)<|oV bt) Y<|bR 7 ag (fa ss ag) Y<|ej 8 ag (fun w' av=>ld oA ag<|Wk.a7 av<|fO (f:=fk) (m:=7) (fun _=>rfl) (bg O).2 bt 6 aM) Y<|ic 9 ag au<|cl uR (uT bv ((F.rules.map (·.next)).getD i []).length bx (((F.rules.map (·.next)).getD i []).map bA) E.drew (aR.wk bk.du.2 Y) (by simp) (fun h=>Tg.vD bk (by simp) h) (uL _) aj) ag ?_;rintro v60 co ⟨br,bJ⟩;have C:Wk E co:=Y.trans bJ;have c1:=C;have bf:(fun w'=>Wk E w') co:=Y.trans bJ;refine ⟨bf,?_⟩;refine bR 10 ag (bh nH ag ag aj<|aR.ok ((bg O).2)<|oV bt) bf<|bR 11 ag (fa ss ag) bf<|eb 12 ag au au<|tV (j:=i*7 +6) (bc O C) uW ag ag (fG br) (by rw [Int.toNat_natCast]; omega) aj fun ck ai b2=> ?_;rw [acg aj aj] at b2;have cW:Wk ae ck:=Wk.own (aC.trans C) (bc O C) ai aj;have di:=dz (eT br (show G.heap.size≤E.heap.size by omega)) ai fun q A=>nT br (bc O C) aM A;have c8:=(bp.wk C).md ai<|ji (bc O C) aM;have c3:=(bQ.wk C).md ai<|ji (bc O C) aM;have dk:=dz (bc aZ C) ai fun q A=>nT (bc aZ C) (bc O C) aM A;have db:=dz (bc aS C) ai fun q A=>nT (bc aS C) (bc O C) aM A;have de:=dz (bc aV C) ai fun q A=>nT (bc aV C) (bc O C) aM A;have c7:=ai.aW (Wk.aW C aO) fun h=>by have :=(dK (bc O C) h).1; omega
 exact fi au<|bn<|a5<|rg ag<|p (ad ag ag<|cR aj)<|p mv<|nl<|tn<|⟨_,aj,i+1,rn.set i v60,aj,(by rw [yQ]; exact dt),(set_drop ce),(H0 c8 (by rw [fH]; omega) aj<|Tg.kj di),b2,dk,db,c3,de,c7,cW,(by have :=c1.size; have :=ai.size; omega),ag,ag⟩
 refine ext<|bj<|bj<|be<|a4<|ak fun a5=>p (dp Cq ag (ag) (show ∀ j,j < 13→Hb.a7 E.heap ac (0 +j)=(mA F ⟨aa,.slice ah F.aliases.length l8,v20,.slice a12 F.rules.length ax,V.sa,V.rn⟩)[j]? from fun j aP=>(bo aO).trans<|by match j,aP with | 0,_=>rfl | 1,_=>rfl | 2,_=>rfl | 3,_=>rfl | 4,_=>rfl | 5,_=>rfl | 6,_=>rfl | 7,_=>rfl | 8,_=>rfl | 9,_=>rfl | 10,_=>rfl | 11,_=>rfl | 12,_=>rfl))<|e<|gS Dr ag ag ag (CC (fG aZ) (fG aS) (fG aV)<|fG O) (Wk.aW aC bz) aM fun dE aK cL=>nl<|a5<|rt<|xx ag (eo (cs:=mA F ⟨aa,.slice ah F.aliases.length l8,v20,.slice a12 F.rules.length ax,V.sa,V.rn⟩) ag Cq ag fun j aP=>(bX.bF ⟨_,cL⟩ j).trans ag) ?_;have aQ:∀ {t s n:Nat} {v:Value} {xs:List Value},bB E G.heap.size t s v n xs→bB dE w.heap.size t s v n xs:=fun h=>eT (dz h aK fun q A h2=>by have :=(dK h A).1; omega) aj;rw [eK aj,eK (by rw [fH]; omega)] at bp;have bW:∀ k,k=a9→∀ cur z,E.heap[k]?≠some (.cells cur 95 z):=gk (Wk.aW aC bz) aM;exact ⟨⟨⟨aa,.slice ah F.aliases.length l8,v20,.slice a12 F.rules.length ax,sa,rn⟩,ag,⟨aQ aZ,aQ aS,(bQ.md aK bW).mono aj,aQ aV,aQ O,(bp.md aK bW).mono aj⟩⟩,(bd.md.trans aC).trans' aK fun q A h=>by omega⟩
end Go.Hb.ir
section
namespace Go.Hb
open Go.Hb.pc Go.Hb.iY Go.Hb.ir
noncomputable def mi (r:List Tx):Nat×Int:=if r.length≠1 then (0,111) else eE (r.getD 0 []) 8192
def Rk (w0 w':World) (X:Except Nat bE) (v:Value):Prop :=(∃ x a,X= .ok x∧v= .tuple #[.agg [str x.1,a].toArray,.int .i64 (0:Nat)]∧bB w' w0.heap.size 95 1 a x.2.length (x.2.map bA))∨(∃ e,X= .error e∧e≠0∧v= .tuple #[.agg [str [],.slice none 0 0].toArray,.int .i64 (e:Nat)])
theorem NF {s:Tx} {i:Nat} (hi:i < s.length):(s.take<|i+1).drop i= [s.getD i 0]:=by
 rw [yi 0 (cU i) hi,iS (by rw [dM]; omega),List.nil_append]
theorem Py (b:UInt8):rF [b]=jy b:=by unfold rF; rw [Sr]; cases jy b <;> rfl
theorem Kb {F:aX} {x:Nat} (h:(eB F.bG x).isSome=true∨x∈F.sp):e8 F x=true :=by
 unfold e8; rcases h with h | h
 · rw [h,Bool.or_true]
 · rw [decide_eq_true h]; rfl
theorem Wf {F:aX} {x:Nat} (h:(eB F.bG x).isSome=false) (h1:x∉F.sp):e8 F x=false :=by
 unfold e8; rw [h,decide_eq_false h1]; rfl
theorem acS {F:aX} (h:F.sp.length=5):[F.sp.getD 0 0,F.sp.getD 1 0,F.sp.getD 2 0,F.sp.getD 3 0,F.sp.getD 4 0]=F.sp:=by
 match F.sp,h with
 | [a,b,c,d,e],_=>rfl
theorem Zj (a:Option Addr) (c:Nat) (l:List Nat) (x:Nat) (w:World) (E:aR w.heap a (l.map bA)) (ao:l.length≤1048576):
 bw aE 207 (bl [.slice a l.length c,bA x]) w (fun v w'=>(∃ k:Int,v= .int .i64 k∧(0≤k↔x∈l)∧ -1≤k∧k≤1048576)∧Wk w w'):=by
 refine enter func207 ag ntmps207 ag<|ak fun Y=>az<|Y<|aH fun Z=>ak fun aa=>aw (.slice a l.length c)<|p (bN qA ag ag)<|p mv<|nl<|aa<|aW<|lp (fun C V O=> ∃ (i:Nat),(i≤l.length)∧(∀ j,j < i→l.getD j 0≠x)∧(O=w)∧(Sl V [(0,.slice a l.length c),(1,bA x),(7,ay (l.length)),(8,ay i)])∧(l.length - i=C)) _ ⟨0,aj,(fun j I=>by omega),ag,ag,ag⟩ ?_;rintro C V O ⟨i,hi,J,al,an,rfl⟩;refine bH an ?_;subst al;refine ak fun ab=>p (lt ag ag)<|nl<|ab<|aH fun ac=>cd ag (fun am=> ?_) fun am=> ?_;refine aT<|ac<|aH fun A=>aW<|ak fun ae=>aw (ay i)<|p (cV (ay i) ag)<|nl<|ae<|ak fun ah=>aw (bA x)<|aw (.slice a l.length c)<|aw (ay i)<|p (bh cQ ag ag aj<|aR.ok (E)<|bY aj)<|p (ld dA ag<|aR.gQ E (show (l.map bA)[i]? =some (bA<|l.getD i 0) by rw [gi,da,cz (by omega :i < l.length)]; rfl)) ?_;refine p (bT ag ag)<|nl<|ah<|cd ag (fun G=> ?_) fun G=> ?_;exact ak fun ai=>aw (ay i)<|p (cV (ay i) ag)<|nl<|ai<|rt<|br<|tr<|tr<|br<|tr<|ba ag<|⟨⟨(i:Nat),ag,⟨fun _=>by obtain rfl :x=l.getD i 0:=aj; exact ek aj,fun _=>by omega⟩,aj,aj⟩,Md.refl _ _⟩
 exact aT<|bn<|A<|rg ag<|p (ad ag ag<|cR aj)<|p mv<|nl<|tn<|⟨_,aj,i+1,aj,(fun j I=>by rcases fT j i with h | h <;> first | exact J j h | (rw [show j=i by omega]; exact fun h2=>G<|by rw [h2])),ag,ag,ag⟩
 exact ext<|bj<|bj<|be<|Z<|ak fun A=>p aJ<|nl<|A<|rt<|ba ag<|⟨⟨-1,ag,⟨fun h=>absurd h aj,fun h=>by obtain ⟨j,I,e⟩:=mY 0 h; exact absurd e<|J j aj⟩,aj,aj⟩,Md.refl _ _⟩
theorem Vx (a:Option Addr) (c:Nat) (l:List Nat) (x:Nat) (w:World) (E:aR w.heap a (l.map bA)) (I:l.length≤1048576):
 bw aE 141 (bl [.slice a l.length c,bA x]) w (fun v w'=>v= .bool (decide (x∈l))∧Wk w w'):=by
 refine enter func141 ag ntmps141 ag<|ak fun A=>az<|A<|ak fun C=>aw (.slice a l.length c)<|aw (bA x)<|e<|cl Tb (Zj a c l x w E I) ag ?_;rintro V Y ⟨⟨J,rfl,G,O⟩,hE7⟩;exact p (ge ag ag)<|az<|C<|rt<|ba ag<|⟨by show cy (decide (J≥0))=_; exact congrArg cy (decide_eq_decide.2 G),hE7⟩
theorem uX (ln er:Int) (w:World):
 bw aE 77 (bl [.int .i64 ln,.int .i64 er]) w (fun v w'=>v= .agg [.int .i64 2,.int .i64 ln,.int .i64 er].toArray∧Wk w w'):=by
 exact enter func77 ag ntmps77 ag<|ak fun A=>e<|al rI fun O aa V J G=>nl<|A<|ak fun C=>aw (.int .i64 ln)<|aw (.int .i64 er)<|p (dt (ps:= [(0,.int .i64 2),(1,.int .i64 ln),(2,.int .i64 er)]) (L:= [.int .i64 2,.int .i64 ln,.int .i64 er]) vJ ag<|ag)<|e<|dy kz ag ag ag ag (G) (by simp) fun ab I E=>nl<|C<|rt<|xx ag (eo (cs:= [.int .i64 2,.int .i64 ln,.int .i64 er]) ag l7 ag fun j Y=>E.bF j)<|⟨ag,J.md.trans' I fun q Z h=>by omega⟩
theorem Wx (n:Nat) (r:List Tx) (B:Nat) (a:Option Addr) (c:Nat) (w:World) (Y:Tg w B 9 r.length (.slice a r.length c) (r.map str)) (aa:∀ x∈r,x.length≤70000) (ah:r.length≤70000):
 bw aE 78 (bl [.agg [ay n,.slice a r.length c].toArray]) w (fun v w'=>v= .tuple #[ay ((mi r).1),.int .i64 (mi r).2]∧Wk w w'):=by
 refine enter func78 ag ntmps78 ag<|ak fun I=>e<|je ag fun ac ab ae C E=> ?_;have G:=Y.wk C.md;refine p aJ<|az<|I<|aH fun J=>ak fun O=>p (fa xI ag)<|p (ld ky ag<|(E.a7 1).trans ag)<|p (bN ee ag ag)<|p (dw ag ag)<|nl<|O<|cd ag (fun Z=> ?_) fun Z=> ?_;refine ak fun A=>p aJ<|az<|A<|rt<|tr<|f2 ag ag ag ?_;have h1:r.length≠1:=aj;exact ⟨by unfold mi; rw [if_pos h1]; rfl,C.md⟩;refine aT<|J<|ak fun A=>p (fa xI ag)<|p (ld ky ag<|(E.a7 1).trans ag)<|p (bh cE ag ag aj<|aR.ok (G.du.2)<|bY aj)<|p (ld bW ag<|cw.get (i:=0) G.du.2 aj)<|e<|cl zi (AM (r.getD 0 []) 8192 ab (by have :=aa _ (ek (d:= []) (show 0 < r.length by omega)); omega) aj) ag ?_;rintro v12 ai ⟨rfl,V⟩;refine p (xt ag ag)<|p (xt ag ag)<|p aJ<|az<|A<|rt<|f2 ag ag ag ?_;have h1:¬r.length≠1:=aj;exact ⟨by unfold mi; rw [if_neg h1]; rfl,C.md.trans V⟩
theorem Wn (B fb mc:Nat) (F:aX) (V:fN) (n:Nat) (r:List Tx) (bz:Nat) (ar:Option Addr) (cr:Nat) (w:World) (aU:eu w B fb mc F V) (ce:∃ seen,lB F [] seen) (cu:Tg w bz 9 r.length (.slice ar r.length cr) (r.map str)) (cI:∀ x∈r,x.length≤70000) (c0:r.length≤70000):
 bw aE 79 (bl [a6 fb,.agg [bA (F.sp.getD 0 0),bA (F.sp.getD 1 0),bA (F.sp.getD 2 0),bA (F.sp.getD 3 0),bA (F.sp.getD 4 0)].toArray,.agg [ay n,.slice ar r.length cr].toArray]) w (fun v w'=>Rk w w' (gF F r) v∧Wk w w'):=by
 obtain ⟨seen,ax⟩:=ce;have cZ:=ax.len;have c3:=ua<|r.getD 0 [];refine enter func79 ag ntmps79 ag<|ak fun bC=>e<|je ag fun aN dh cW bk b9=>e<|je ag fun cQ dj cX aY ca=>e<|al rJ fun ba bt cY aC bb=> ?_;have aA:Wk w bt:=bk.md.trans<|aY.md.trans aC.md;have cH:=aC.md.B<|aY.md.B b9;have bs:=aC.md.B ca;have bm:=cu.wk aA;have ch:=aU.wk aA;have c6:=bk.size;have c7:=aY.size;have c9:=aC.size;refine az<|bC<|aH fun bM=>ak fun bT=>p (fa xI ag)<|p (ld ky ag<|(bs.a7 1).trans ag)<|p (bN ee ag ag)<|p (dw ag ag)<|nl<|bT<|cd ag (fun cv=> ?_) fun cv=> ?_;exact ak fun aK=>p (dt (ps:= []) (L:= [.string ⟨⟨[]⟩⟩,.slice none 0 0]) pX ag<|ag)<|e<|dy kO ag ag ag ag (bb) (by simp) fun dB cq b8=>az<|aK<|rt<|tr<|eV ag (eo (cs:= [str [],.slice none 0 0]) ag mz ag fun j E=>b8.bF j) eI<|⟨.inr ⟨111,Kr aj,aM,ag⟩,aA.trans' cq fun q A h=>by omega⟩
 have I:r.length=1:=aj;have c1:(r.getD 0 []).length≤70000:=cI _<|ek aj;refine aT<|bM<|ak fun aK=>p (fa xI ag)<|p (ld ky ag<|(bs.a7 1).trans ag)<|p (bh cE ag ag aj<|aR.ok (bm.du.2)<|bY aj)<|p (ld bW ag<|cw.get (i:=0) bm.du.2 aj)<|e<|cl CM (GO (r.getD 0 []) bt aj) ag ?_;rintro v28 cN ⟨rfl,am⟩;have aa:=aA.trans am;have ab:=am.B bb;have c5:=am.size;refine p mv<|p (xt ag ag)<|p (xt ag ag)<|p (xt ag ag)<|p (xt ag ag)<|p aJ<|p aJ<|p aJ<|az<|aK<|aH fun bU=>ak fun bV=>p mv<|p (dw ag ag)<|nl<|bV<|cd ag (fun cx=> ?_) fun cx=> ?_;exact ak fun aL=>p (dt (ps:= []) (L:= [.string ⟨⟨[]⟩⟩,.slice none 0 0]) pX ag<|ag)<|p mv<|e<|dy kO ag ag ag ag (ab) (by simp) fun dD ct cc=>az<|aL<|rt<|tr<|eV ag (eo (cs:= [str [],.slice none 0 0]) ag mz ag fun j E=>cc.bF j) eI<|⟨.inr ⟨_,zP I aj,aj,ag⟩,aa.trans' ct fun q A h=>by omega⟩
 have Z:(bK<|r.getD 0 []).2.2.2=0:=aj;refine aT<|bU<|aH fun aL=>ak fun bX=>p mv<|p (c8 u9 ag ag)<|p mv<|nl<|bX<|aW<|lp (fun ah bv au=> ∃ (i:Nat),(i≤(bK<|r.getD 0 []).1.length)∧(∀ j,j < i→jy ((bK<|r.getD 0 []).1.getD j 0)=true)∧(Wk cN au)∧(Sl bv [(0,a6 fb),(4,a6 aN),(6,a6 ba),(8,str (bK<|r.getD 0 []).1),(9,str (bK<|r.getD 0 []).2.1),(10,.bool (bK<|r.getD 0 []).2.2.1),(38,ay ((bK<|r.getD 0 []).1.length)),(39,ay i)])∧((bK<|r.getD 0 []).1.length - i=ah)) _ ⟨0,aj,(fun j E=>by omega),(Md.refl _ _),ag,ag⟩ ?_;rintro ah bv au ⟨i,hi,bp,C,cJ,rfl⟩;refine bH cJ<|ak fun bZ=>p (lt ag ag)<|nl<|bZ<|aH fun bE=>cd ag (fun cy=> ?_) fun cy=> ?_;refine aT<|bE<|aH fun aD=>aW<|ak fun aF=>aw (ay i)<|p (cV (ay i) ag)<|nl<|aF<|ak fun ac=>aw (str (bK<|r.getD 0 []).1)<|aw (ay i)<|aw (ay i)<|p (ad ag ag<|cR aj)<|p (ng u9 ag ag ag aj)<|e<|cl Ir (PA (((bK<|r.getD 0 []).1.take<|i+1).drop i) au<|by rw [NF aj]; simp) ag ?_;rintro dd di ⟨rfl,cg⟩;have bq:=NF (s:=(bK<|r.getD 0 []).1) (i:=i) aj;have aO:=C.trans cg;refine p (no ag)<|nl<|ac<|cb ag (fun a1=> ?_) fun a1=> ?_;have a4:jy ((bK<|r.getD 0 []).1.getD i 0)=false :=by rw [← Py,← bq]; simpa using a1
 exact ak fun ae=>p (dt (ps:= []) (L:= [.string ⟨⟨[]⟩⟩,.slice none 0 0]) pX ag<|ag)<|e<|dy kO ag ag ag ag (Wk.B aO ab) (by simp) fun dn ci b0=>az<|ae<|rt<|br<|tr<|tr<|br<|tr<|eV ag (eo (cs:= [str [],.slice none 0 0]) ag mz ag fun j E=>b0.bF j) eI<|⟨.inr ⟨21,zQ I Z (.inl<|uQ aj a4),aM,ag⟩,(aa.trans aO).trans' ci fun q A h=>by omega⟩
 have a4:jy ((bK<|r.getD 0 []).1.getD i 0)=true :=by rw [← Py,← bq]; simpa using a1
 exact aT<|bn<|aD<|rg ag<|p (ad ag ag<|cR aj)<|p mv<|nl<|tn<|⟨_,aj,i+1,aj,(fun j E=>by rcases fT j i with h | h <;> first | exact bp j h | (rw [show j=i by omega]; exact a4)),aO,ag,ag⟩
 refine ext<|bj<|bj<|be<|aL<|aH fun aD=>aW<|aH fun aF=>rg ag<|aw (str (bK<|r.getD 0 []).1)<|p (ew ag ag)<|az<|aF<|cd ag (fun Y=> ?_) fun Y=> ?_;exact ak fun ac=>p (dt (ps:= []) (L:= [.string ⟨⟨[]⟩⟩,.slice none 0 0]) pX ag<|ag)<|e<|dy kO ag ag ag ag (Wk.B C ab) (by simp) fun dp cj b1=>az<|ac<|rt<|br<|tr<|eV ag (eo (cs:= [str [],.slice none 0 0]) ag mz ag fun j E=>b1.bF j) eI<|⟨.inr ⟨21,zQ I Z (.inr Y),aM,ag⟩,(aa.trans C).trans' cj fun q A h=>by omega⟩
 have an:=xh (w:=(bK<|r.getD 0 []).1) fun j E=>bp j aj;refine ak fun ac=>aw (str (bK<|r.getD 0 []).1)<|p (c8 u9 ag ag)<|p (gt ag ag)<|az<|ac<|cd ag (fun cA=> ?_) fun cA=> ?_;exact ak fun ae=>p (dt (ps:= []) (L:= [.string ⟨⟨[]⟩⟩,.slice none 0 0]) pX ag<|ag)<|e<|dy kO ag ag ag ag (Wk.B C ab) (by simp) fun dq ck b2=>az<|ae<|rt<|br<|tr<|eV ag (eo (cs:= [str [],.slice none 0 0]) ag mz ag fun j E=>b2.bF j) eI<|⟨.inr ⟨22,Ks I Z an Y aj,aM,ag⟩,(aa.trans C).trans' ck fun q A h=>by omega⟩
 refine ak fun ae=>aw (.bool (bK<|r.getD 0 []).2.2.1)<|p (no ag)<|az<|ae<|cb ag (fun ao=> ?_) fun ao=> ?_;exact ak fun aG=>aw (str (bK<|r.getD 0 []).1)<|p (dt (ps:= [(0,str (bK<|r.getD 0 []).1)]) (L:= [str (bK<|r.getD 0 []).1,.slice none 0 0]) pX ag<|ag)<|e<|dy kO ag ag ag ag (Wk.B C ab) (by simp) fun dr cm b4=>az<|aG<|rt<|br<|tr<|eV ag (eo (cs:= [str (bK<|r.getD 0 []).1,.slice none 0 0]) ag mz ag fun j E=>b4.bF j) eI<|⟨.inl ⟨_,.slice none 0 0,Kt I Z an Y aj (by simpa using ao),ag,dC _ _ _ _⟩,(aa.trans C).trans' cm fun q A h=>by omega⟩
 refine aT<|bn<|aD<|ak fun aG=>aw (a6 fb)<|aw (str (bK<|r.getD 0 []).2.1)<|e<|cl Is (KK B fb mc F V (bK<|r.getD 0 []).2.1 au (ch.wk<|am.trans C) ax.kd ax.al aj aj) ag ?_;rintro cL a5 ⟨cD,aP⟩;have aB:=aa.trans<|C.trans aP;have a0:=Wk.B (C.trans aP) ab;obtain ⟨cO,cS,rfl,bo⟩:∃ a,∃ e:Nat,cL= .tuple #[a,ay e]∧((e=0∧∃ l,gJ F.kind F.aliases (bK<|r.getD 0 []).2.1= .ok l∧bB a5 au.heap.size 95 1 a l.length (l.map bA))∨(e≠0∧gJ F.kind F.aliases (bK<|r.getD 0 []).2.1= .error e)):=by
  rcases cD with ⟨a,l,h1,h2,h3⟩ | ⟨a,e,h1,h2,h3⟩;exact ⟨a,0,h1,.inl ⟨ag,l,h2,h3⟩⟩;exact ⟨a,e,h1,.inr ⟨h2,h3⟩⟩
 refine p mv<|p (xt ag ag)<|p (xt ag ag)<|p aJ<|az<|aG<|aH fun bG=>ak fun bJ=>p mv<|p (dw ag ag)<|nl<|bJ<|cd ag (fun cB=> ?_) fun cB=> ?_;obtain ⟨cG,ap⟩:=bo.resolve_left fun h=>by omega
 exact ak fun aI=>p (dt (ps:= []) (L:= [.string ⟨⟨[]⟩⟩,.slice none 0 0]) pX ag<|ag)<|p mv<|e<|dy kO ag ag ag ag (a0) (by simp) fun ds cn b5=>az<|aI<|rt<|tr<|eV ag (eo (cs:= [str [],.slice none 0 0]) ag mz ag fun j E=>b5.bF j) eI<|⟨.inr ⟨_,Ku I Z an Y aj (by simpa using ao) ap,cG,ag⟩,aB.trans' cn fun q A h=>by omega⟩
 obtain ⟨_,set,ap,aq⟩:=bo.resolve_right fun h=>by omega
 obtain ⟨J,O,rfl⟩:=cM aq;have c2:=zX (fun l cF=>(ax.al l cF).1) ap;refine aT<|bG<|aH fun aI=>ak fun bL=>p mv<|p (bN Pf ag ag)<|p mv<|nl<|bL<|aW<|lp (fun ah bx a8=> ∃ (j:Nat),(j≤set.length)∧(∀ q,q < j→e8 F (set.getD q 0)=true)∧(Wk a5 a8)∧(Sl bx [(0,a6 fb),(4,a6 aN),(6,a6 ba),(8,str (bK<|r.getD 0 []).1),(13,.slice J set.length O),(75,.slice J set.length O),(76,ay (set.length)),(77,ay j)])∧(set.length - j=ah)) _ ⟨0,aj,(fun q A=>by omega),(Md.refl _ _),ag,ag⟩ ?_;rintro ah bx a8 ⟨j,E,aZ,G,cK,rfl⟩;refine bH cK<|ak fun bO=>p (lt ag ag)<|nl<|bO<|aH fun bP=>cd ag (fun cC=> ?_) fun cC=> ?_;refine aT<|bP<|aH fun av=>aW<|ak fun bQ=>p (bh Ky ag ag aj<|aR.ok ((bg<|bc aq G).2)<|bY aj)<|p (ld dA ag<|aR.gQ (bg<|bc aq G).2 (show (set.map bA)[j]? =some (bA<|set.getD j 0) by rw [gi,da,cz (by omega :j < set.length)]; rfl)) ?_;refine az<|bQ<|ak fun bR=>aw (a6 fb)<|p mv<|e<|cl CL (DL B fb mc F V (set.getD j 0) a8 (aU.wk<|aB.trans G) aj) ag ?_;rintro de dk ⟨rfl,bd⟩;have db:=bd.size;have dc:=G.size;refine p mv<|p (xt ag ag)<|p (xt ag ag)<|e<|al vY fun cP dg cU bi b3=>e<|dy tB ag ag ag ag (b3) (by simp) fun bu co cT=> ?_;have c4:=bi.size;have ai:Wk a5 bu:=(G.trans<|bd.trans bi.md).trans' co fun q A h=>by omega
 refine az<|bR<|ak fun a9=>p mv<|p (no ag)<|p mv<|gb (t:=89) ag (fun a3=> ?_) fun a3=> ?_;refine aV ag (RY xf ag)<|aV ag mv<|eg ag ag ag<|cl SJ (Vx (some ⟨aN,0,none⟩) 5 [F.sp.getD 0 0,F.sp.getD 1 0,F.sp.getD 2 0,F.sp.getD 3 0,F.sp.getD 4 0] (set.getD j 0) bu (aR.dZ<|Wk.B ((am.trans<|C.trans aP).trans ai) cH)<|by simp) ag ?_;rintro df dl ⟨rfl,aS⟩;rw [acS aU.gG] at*;refine aV ag (no ag)<|p (bI ag)<|nl<|a9<|cb ag (fun a2=> ?_) fun a2=> ?_;exact ak fun bS=>p (dt (ps:= []) (L:= [.string ⟨⟨[]⟩⟩,.slice none 0 0]) pX ag<|ag)<|e<|dy kO ag ag ag ag (Wk.B (ai.trans aS) a0) (by simp) fun dv cp b6=>az<|bS<|rt<|br<|tr<|tr<|br<|tr<|eV ag (eo (cs:= [str [],.slice none 0 0]) ag mz ag fun j E=>b6.bF j) eI<|⟨.inr ⟨120,Kv I Z an Y aj (by simpa using ao) ap (i:=j) aj (Wf (by simpa using a3)<|by simpa using a2),aM,ag⟩,(aB.trans<|ai.trans aS).trans' cp fun q A h=>by omega⟩
 exact aT<|bn<|av<|rg ag<|p (ad ag ag<|cR aj)<|p mv<|nl<|tn<|⟨_,aj,j+1,aj,(fun q A=>by rcases fT q j with h | h <;> first | exact aZ q h | (rw [show q=j by omega]; exact Kb<|.inr<|by simpa using a2)),(ai.trans aS),ag,ag⟩
 exact aQ ag<|aQ ag<|aQ ag<|aQ ag<|p (bD ag)<|nl<|a9<|cf ag<|aT<|bn<|av<|rg ag<|p (ad ag ag<|cR aj)<|p mv<|nl<|tn<|⟨_,aj,j+1,aj,(fun q A=>by rcases fT q j with h | h <;> first | exact aZ q h | (rw [show q=j by omega]; exact Kb<|.inl<|by simpa using a3)),ai,ag,ag⟩
 exact ext<|bj<|bj<|be<|aI<|ak fun av=>aw (str (bK<|r.getD 0 []).1)<|aw (.slice J set.length O)<|p (dt (ps:= [(0,str (bK<|r.getD 0 []).1),(1,.slice J set.length O)]) (L:= [str (bK<|r.getD 0 []).1,.slice J set.length O]) pX ag<|ag)<|e<|dy kO ag ag ag ag (Wk.B G a0) (by simp) fun dx bf b7=>az<|av<|rt<|eV ag (eo (cs:= [str (bK<|r.getD 0 []).1,.slice J set.length O]) ag mz ag fun j E=>b7.bF j) eI<|⟨.inl ⟨((bK<|r.getD 0 []).1,set),.slice J set.length O,DD I Z an Y aj (by simpa using ao) ap (fun j E=>aZ j aj),ag,eT (dz (bc aq G) bf fun q A h=>by have :=(dK aq A).1; have :=C.size; omega)<|by have :=C.size; omega⟩,(aB.trans G).trans' bf fun q A h=>by omega⟩
end Go.Hb
end
