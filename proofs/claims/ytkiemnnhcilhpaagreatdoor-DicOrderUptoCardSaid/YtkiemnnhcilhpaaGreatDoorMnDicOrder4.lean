/-
  Walks and plain laws that the law rests on, laid together. No conditions but those that each theorem names.
-/
import Derived.Test.YtkiemnnhcilhpaaGreatDoorMnDicOrder3
set_option linter.unusedVariables false
section
set_option maxRecDepth 20000
set_option maxHeartbeats 1000000
namespace Go.Hb.jV
open Go.Hb.c6
open Go.Proofs
open Go.Hb.ff Go.Hb.fP Go.Hb.jZ Go.Hb.iG Go.Hb.kS Go.Hb.gu Go.Hb.gP Go.Hb.gG
theorem Dd {kind:Nat} {s:Tx} (h:(e6 kind s).2=0):(e6 kind s).1≠0:=by
 unfold e6 at h ⊢
 split
 · rename_i a; rw [if_pos a] at h; cases h
 · rename_i a; exact a
theorem De {F:aM} {s:Tx} (h:(e6 F.kind s).2≠0):fp F s= .error (e6 F.kind s).2:=if_pos h
theorem Df {F:aM} {s:Tx} (h:(e6 F.kind s).2=0) (h1:c9 F (e6 F.kind s).1=true):fp F s= .error 115:=by unfold fp; rw [if_neg (fun h2=>h2 h),if_pos h1]
theorem Dg {F:aM} {s:Tx} (h:(e6 F.kind s).2=0) (h1:c9 F (e6 F.kind s).1=false):fp F s= .ok (e6 F.kind s).1:=by unfold fp; rw [if_neg (fun h2=>h2 h),if_neg (by rw [h1]; exact Bool.noConfusion)]
theorem G7 {F:aM} {rows:List Rw} {ln e:Nat} {r:List Tx} (h:fp F (r.getD 1 [])= .error e):gD F rows ln r= .error (ln,e):=by unfold gD; rw [h]
theorem G8 {F:aM} {rows:List Rw} {ln x:Nat} {r:List Tx} (h:fp F (r.getD 1 [])= .ok x):gD F rows ln r= .ok ({F with sp:=F.sp.set (dU.idxOf (r.getD 0 [])) x},rows):=by unfold gD; rw [h]
def jH:List Tx:= [fY,gj,gz,gK,gX,fq,fw,cg]
theorem wH (hs:List Tx):ordered hs=true↔∀ k∈jH,k∉hs:=by
 unfold ordered
 rw [Bool.not_eq_true',List.any_eq_false]
 have hm:∀ k,k∈jH↔(k∈dU∨k=fq∨k=fw∨k=cg):=by
  intro k
  simp only [jH,dU,List.mem_cons,List.not_mem_nil,or_false,or_assoc]
 constructor
 · intro h k hk a
   have :=h k a
   rw [decide_eq_true_iff] at this
   exact this ((hm k).1 hk)
 · intro h x c hd
   rw [decide_eq_true_iff] at hd
   exact h x ((hm x).2 hd) c
theorem GN {F:aM} {rows:List Rw} {ln:Nat} {r:List Tx} (h:eF (r.getD 1 [])=false):jL F rows ln r= .error (ln,21):=if_pos h
theorem GO {F:aM} {rows:List Rw} {ln:Nat} {r:List Tx} (h:eF (r.getD 1 [])=true):jL F rows ln r= .ok ({F with mL:=r.getD 1 []},rows):=if_neg (by rw [h]; exact Bool.noConfusion)
theorem HF {F:aM} {rows:List Rw} {ln:Nat} {r:List Tx} (h:(letE (r.getD 1 [])).2≠0):jM F rows ln r= .error (ln,(letE (r.getD 1 [])).2):=if_pos h
theorem HG {F:aM} {rows:List Rw} {ln:Nat} {r:List Tx} (h:(letE (r.getD 1 [])).2=0):jM F rows ln r= .ok ({F with tr:=(letE (r.getD 1 [])).1},rows):=if_neg (fun h2=>h2 h)
theorem E1 {F:aM} {rows:List Rw} {ln e:Nat} {r:List Tx} (h:cR (r.getD 1 []) 64= .error e):g5 F rows ln r= .error (ln,e):=by unfold g5; rw [h]
theorem E2 {F:aM} {rows:List Rw} {ln n:Nat} {r:List Tx} (h:cR (r.getD 1 []) 64= .ok n) (a:n=0):g5 F rows ln r= .error (ln,13):=by unfold g5; rw [h]; exact if_pos a
theorem E3 {F:aM} {rows:List Rw} {ln n:Nat} {r:List Tx} (h:cR (r.getD 1 []) 64= .ok n) (a:n≠0):g5 F rows ln r= .ok ({F with least:=n},rows):=by unfold g5; rw [h]; exact if_neg a
theorem Ek {F:aM} {seen:List Tx} {rows:List Rw} {ln:Nat} {r:List Tx} {k:Tx} (hk:k∈jH) (h:k∈seen):gY F seen rows ln r= .error (ln,113):=by
 unfold gY
 rw [if_pos]
 cases ho:ordered seen with
 | false =>rfl
 | true =>exact absurd h ((wH seen).1 ho k hk)
theorem El {F:aM} {seen:List Tx} {rows:List Rw} {ln:Nat} {r:List Tx} (h:ordered seen=true) (a:gM (r.getD 1 [])=0):gY F seen rows ln r= .error (ln,114):=by unfold gY; rw [if_neg (by rw [h]; exact Bool.noConfusion),if_pos a]
theorem Em {F:aM} {seen:List Tx} {rows:List Rw} {ln:Nat} {r:List Tx} (h:ordered seen=true) (a:gM (r.getD 1 [])≠0):gY F seen rows ln r= .ok ({F with kind:=gM (r.getD 1 [])},rows):=by unfold gY; rw [if_neg (by rw [h]; exact Bool.noConfusion),if_neg a]
def kinds:List Tx:= [q6,q4,q5]
theorem Ei (s:Tx):((if s∈kinds then (kinds.idxOf s:Nat) else -1:Int))=(gM s:Nat) - 1:=by
 unfold gM kinds
 by_cases h1:s=q6
 · subst h1; decide
 · by_cases h2:s=q4
   · subst h2; decide
   · by_cases h3:s=q5
     · subst h3; decide
     · rw [if_neg (by simp [h1,h2,h3]),if_neg h1,if_neg h2,if_neg h3]; rfl
theorem Ej (s:Tx):gM s≤3:=by
 unfold gM
 split
 · omega
 · split
   · omega
   · split <;> omega
theorem qP (B:Nat) (H:bw) (F:aM) (V:dq) (R:dV) (rows:List Rw) (ln:Nat) (seen:List Tx) (s:Tx) (w:World) (C:bQ w B H.fb H.mc F V) (j:bC w B H F R rows ln seen) (hk:F.kind=1∨F.kind=2∨F.kind=3) (hs:s.length≤1048576):
 c8 Tryz.prog 96 (List.toArray [.pointer (some ⟨H.rb,0,none⟩),str s]) w (fun v w'=> ∃ x,fp F s= .ok x∧x≠0∧v=aI x∧c9 F x=false∧Wk w w') (fun c w'=> ∃ e,fp F s= .error e∧c=eO 25 ln (e:Nat)∧Wk w w'):=by
 obtain ⟨an,ac,ad⟩:=j.tm
 refine fI Tryz.func96 U Tryz.ntmps96 U (sq (fun ai G=>rg U (p aA (nl (tn (G _ _ (sq (fun aj I=>rg U (p (aB (.pointer (some ⟨H.rb,0,none⟩)) U) (p (nc U) (p (fa dX U) (p (ld dO U ((a4 j.cells).trans U)) (p (nc U) (p (fa dQ U) (p (fa lV U) (p (ld eu U ((a4 C.cells).trans U)) (p (aB (str s) U) (e (cl zj (Fw F.kind s _ hk hs) U fun ap ae Y=> ?_)))))))))))))))))))
 obtain ⟨rfl,a⟩:=Y
 refine p mv (p (xt U U) (p (xt U U) (p aA (p aA (nl (tn (I _ _ (sq (fun ak J=>rg U (p (aB (.pointer (some ⟨H.rb,0,none⟩)) U) (p mv (eP U (bO jr (jD H.rb ln ((e6 F.kind s).2:Nat) ae (Wk.aG a j.cQ)) U fun aq ag Z=> ?_) (fun c w' i ah C=>⟨_,De (by have :=i.2.1; omega),i.1,by rw [i.2.2]; exact a⟩)))))))))))))
 obtain ⟨rfl,A,rfl⟩:=Z
 have A:(e6 F.kind s).2=0:=aa
 have E:=Dd A
 refine nl (tn (J _ _ (sq (fun al M=>rg U (p (aB (.pointer (some ⟨H.rb,0,none⟩)) U) (p (aB (.pointer (some ⟨H.rb,0,none⟩)) U) (p (nc U) (p (fa qM U) (p (ld mD U (Wk.aG a ((a4 j.cells).trans U))) (p mv (p (jy dD jU lj (ac.wk a) U U (⟨_,U⟩) (ad _ E)) (p (bp U U) (eP U (bO ed (ej H.rb ln _ 115 ag (Wk.aG a j.cQ) ao) U fun ar au ab=> ?_) (fun c w' i ah C=>⟨115,Df A (by have h:=i.2.1; rw [tW] at h; simpa using h),i.1,by rw [i.2.2]; exact a⟩))))))))))))))
 obtain ⟨rfl,q,rfl⟩:=ab
 rw [tW] at q
 have q:c9 F (e6 F.kind s).1=false :=by simpa using q
 exact nl (tn (M _ _ (sq (fun am O=>rg U (p mv (p aA (nl (tn (O _ _ (rt (fk (f1 U U (⟨_,Dg A q,E,U,q,a⟩)))))))))))))
theorem nu (B:Nat) (H:bw) (F:aM) (rows:List Rw) (ln:Nat) (seen:List Tx) (r:List Tx) (aD:Nat) (E:Option Addr) (M:Nat) (w:World) (J:St w B H F rows ln seen) (ae:Tg w aD 9 r.length (.slice E r.length M) (r.map str)) (a5:r.length=2) (aV:∀ x∈r,x.length≤70000) (au:r.getD 0 []∈dU) (aW:F.sp.getD (dU.idxOf (r.getD 0 [])) 0=0):
 c8 Tryz.prog 61 (List.toArray [.pointer (some ⟨H.rb,0,none⟩),.slice E r.length M]) w (eW B H seen (gD F rows ln r) w) (eV B H (gD F rows ln r) w):=by
 obtain ⟨V,R,q,A,s⟩:=J
 have an:=ae.bN
 have aq:¬(H.rb=H.fb):=fun h=>by have h1:=A.cells; rw [h,q.cells] at h1; cases h1
 have a6:(r.getD 1 []).length≤70000:=aV _ (dK aa)
 have ar:¬(bk E=H.fb):=Tg.nd ae (bL aa) q.cells ao
 obtain ⟨ba,ag,av⟩:=A.tm
 obtain ⟨a9,a7,a8⟩:=A.sm
 have ap:dU.idxOf (r.getD 0 []) < 5:=List.idxOf_lt_length_iff.2 au
 refine fI Tryz.func61 U Tryz.ntmps61 U (sq (fun a1 aJ=>rg U (p (aB (.pointer (some ⟨H.rb,0,none⟩)) U) (p (aB (.slice E r.length M) U) (p (aQ bT U U aa (aw.ok (an.2) (bL aa))) (p (ld bF U (bM.get (i:=1) an.2 aa)) (eP U (bO qd (qP B H F V R rows ln seen (r.getD 1 []) w q A s.kd aa) U fun v9 bc I=> ?_) (fun c w' aL bd q=>by obtain ⟨e,he,h,h2⟩:=aL; exact ⟨ln,e,G7 he,h,Wk.mw h2⟩))))))))
 obtain ⟨x,aX,aY,rfl,ay,j⟩:=I
 have aH:=q.wk j
 have I:=A.wk j
 refine p aA (nl (tn (aJ _ _ (sq (fun a2 aK=>rg U (p (aB (.pointer (some ⟨H.rb,0,none⟩)) U) (p (nc U) (p (fa qM U) (p (ld mD U (Wk.aG j ((a4 A.cells).trans U))) (p mv (p (jy dD jU lj (ag.wk j) U U (⟨_,U⟩) (show _=Value.int .i64 0 from (av x aY).trans (by rw [ay]; rfl))) (p (bm ((1:Nat):Int) U U (aU aa aa)) (e (ml dD lj (ag.wk j) U U U (⟨_,U⟩) fun C Y aN=> ?_))))))))))))))
 have aj:=I.nb (F':= {F with sp:=F.sp.set (dU.idxOf (r.getD 0 [])) x}) Y aN rfl (xI ay av (BV (by rw [q.gC]; exact ap) aW))
 have O:=aH.nb I Y
 have aS:=(ae.wk j).md Y (fun k hk cur z aT=>by subst hk; exact (ag.wk j).ki aT)
 have am:=aS.bN
 refine nl (tn (aK _ _ ?_))
 have a:(fun w'=>Md (fun k=>k=H.fb) C w') C.drew:=(Md.refl _ _).drew
 refine bS (fun w'=>Md (fun k=>k=H.fb) C w') U wide a (hp 0 U ab (fun _ _=>aB (.pointer (some ⟨H.rb,0,none⟩)) U) a (hp 1 U ab (fun _ _=>nc U) a (hp 2 U ab (fun _ _=>fa dX U) a (hp 3 U ab (fun w' J=>ld dO U (Md.aG J ((a4 aj.cells).trans U) (by first | exact aq | exact ar))) a (hp 5 U ab (fun _ _=>aB (.slice E r.length M) U) a (hp 6 U ab (fun _ _=>aQ bT U U aa (aw.ok (am.2) (bL aa))) a (hp 7 U ab (fun w' J=>ld bF U (Md.aG J (bM.get (i:=0) am.2 aa) (by first | exact aq | exact ar))) a (hp 9 U ab (fun _ _=>mv) a (hp 10 U ab (fun _ _=>nc U) a (hp 11 U ab (fun _ _=>fa dQ U) a (hp 12 U ab (fun _ _=>fa uT U) a (he 4 U ab (lM (L:=dU.map str) dC U U U U fun ah az a3 ac aE=> ?_)))))))))))))
 have aP:bM az.heap (some ⟨ah,0,none⟩) dU:=aw.dj ⟨_,aE⟩
 have G:=fz ac.md
 have ak:(fun w'=>Md (fun k=>k=H.fb) C w') az:=a.trans' ac.md (fun _ _ h=>h.elim)
 refine ⟨ak,?_⟩
 refine he 8 U ab (cl tC (vw dU (some ⟨ah,0,none⟩) 5 (r.getD 0 []) _ aP ao) U fun bb aZ aO=> ?_)
 obtain ⟨ax,rfl⟩:=aO
 rw [if_pos au] at ax
 subst ax
 have ad:(fun w'=>Md (fun k=>k=H.fb) C w') aZ:=ak
 refine ⟨ad,?_⟩
 refine hp 13 U ab (fun _ _=>je pS U U aa) ad (he 14 U ab (dp dE U U (v:=aI x) U (ac.md.aC O.cells) (by show _ < 14; omega) fun a0 Z ai=> ?_))
 rw [CO (i:=dU.idxOf (r.getD 0 [])) q.gC ap aa] at ai
 have aR:(fun w'=>Md (fun k=>k=H.fb) C w') a0:=ad.trans' Z (fun _ _ h=>h)
 refine ⟨aR,?_⟩
 refine hn ab (fk (f0 U ?_))
 have aF:=(O.wk G).put (F':= {F with sp:=F.sp.set (dU.idxOf (r.getD 0 [])) x}) Z ai rfl rfl rfl rfl (by rw [List.length_set]; exact q.gC)
 exact ⟨U,_,rows,ln,G8 aX,⟨V,R,aF,(aj.wk G).fb (O.wk G) Z,⟨s.len,s.sl,s.row,s.kd,s.al⟩⟩,((Wk.mw j).trans (c7.mt I Y)).trans ((Wk.mw G).trans (c7.fb (O.wk G) Z))⟩
theorem Ar (B:Nat) (H:bw) (F:aM) (rows:List Rw) (ln:Nat) (seen:List Tx) (r:List Tx) (ah:Nat) (q:Option Addr) (G:Nat) (w:World) (E:St w B H F rows ln seen) (Z:Tg w ah 9 r.length (.slice q r.length G) (r.map str)) (au:r.length=2) (an:∀ x∈r,x.length≤70000):
 c8 Tryz.prog 59 (List.toArray [.pointer (some ⟨H.rb,0,none⟩),.slice q r.length G]) w (eW B H seen (jL F rows ln r) w) (eV B H (jL F rows ln r) w):=by
 obtain ⟨V,R,A,C,s⟩:=E
 have ad:=Z.bN
 have ae:¬(H.rb=H.fb):=fun h=>by have h1:=C.cells; rw [h,A.cells] at h1; cases h1
 have av:(r.getD 1 []).length≤70000:=an _ (dK aa)
 have ag:¬(bk q=H.fb):=Tg.nd Z (bL aa) A.cells ao
 obtain ⟨aD,az,aA⟩:=C.tm
 obtain ⟨aC,ax,ay⟩:=C.sm
 refine fI Tryz.func59 U Tryz.ntmps59 U (sq (fun ar ak=>rg U (p (aB (.pointer (some ⟨H.rb,0,none⟩)) U) (p (aB (.slice q r.length G) U) (p (aQ bT U U aa (aw.ok (ad.2) (bL aa))) (p (ld bF U (bM.get (i:=1) ad.2 aa)) (eP U (bO qc (rH H.rb ln (r.getD 1 []) w C.cQ aa) U fun aE O M=> ?_) (fun c w' Y aF A=>⟨ln,21,GN Y.2.1,Y.1,Wk.mw Y.2.2⟩))))))))
 obtain ⟨rfl,ap,I⟩:=M
 have J:=A.wk I
 have M:=C.wk I
 have ac:=(Z.wk I).bN
 refine nl (tn (ak _ _ ?_))
 have a:(fun w'=>Md (fun k=>k=H.fb) O w') O.drew:=(Md.refl _ _).drew
 refine bS (fun w'=>Md (fun k=>k=H.fb) O w') U wide a (hp 0 U ab (fun _ _=>aB (.pointer (some ⟨H.rb,0,none⟩)) U) a (hp 1 U ab (fun _ _=>nc U) a (hp 2 U ab (fun _ _=>fa dX U) a (hp 3 U ab (fun w' E=>ld dO U (Md.aG E ((a4 M.cells).trans U) (by first | exact ae | exact ag))) a (hp 4 U ab (fun _ _=>aB (.slice q r.length G) U) a (hp 5 U ab (fun _ _=>aQ bT U U aa (aw.ok (ac.2) (bL aa))) a (hp 6 U ab (fun w' E=>ld bF U (Md.aG E (bM.get (i:=1) ac.2 aa) (by first | exact ae | exact ag))) a (hp 7 U ab (fun _ _=>nc U) a (hp 8 U ab (fun _ _=>fa dQ U) a (hp 9 U ab (fun _ _=>fa C9 U) a (he 10 U ab (dp j9 U U (v:=str (r.getD 1 [])) U J.cells (by show _ < 14; omega) fun aq j ai=> ?_))))))))))))
 have j:=fz j
 have am:(fun w'=>Md (fun k=>k=H.fb) O w') aq:=j
 refine ⟨am,?_⟩
 refine hn ab (fk (f0 U ?_))
 have aj:=J.put (F':= {F with mL:=r.getD 1 []}) j ai rfl rfl rfl rfl A.gC
 exact ⟨U,_,rows,ln,GO ap,⟨V,R,aj,(M.fb J j).congr U (fun _=>rfl),⟨s.len,s.sl,s.row,s.kd,s.al⟩⟩,(Wk.mw I).trans (c7.fb J j)⟩
theorem HH (B:Nat) (H:bw) (F:aM) (rows:List Rw) (ln:Nat) (seen:List Tx) (r:List Tx) (Z:Nat) (q:Option Addr) (E:Nat) (w:World) (ai:St w B H F rows ln seen) (M:Tg w Z 9 r.length (.slice q r.length E) (r.map str)) (ar:r.length=2) (aj:∀ x∈r,x.length≤70000):
 c8 Tryz.prog 60 (List.toArray [.pointer (some ⟨H.rb,0,none⟩),.slice q r.length E]) w (eW B H seen (jM F rows ln r) w) (eV B H (jM F rows ln r) w):=by
 obtain ⟨V,R,j,C,a⟩:=ai
 have O:=M.bN
 have ap:¬(H.rb=H.fb):=fun h=>by have h1:=C.cells; rw [h,j.cells] at h1; cases h1
 have au:(r.getD 1 []).length≤70000:=aj _ (dK aa)
 have aq:¬(bk q=H.fb):=Tg.nd M (bL aa) j.cells ao
 obtain ⟨aD,ay,az⟩:=C.tm
 obtain ⟨aC,av,ax⟩:=C.sm
 refine fI Tryz.func60 U Tryz.ntmps60 U (sq (fun am ad=>rg U (p (aB (.slice q r.length E) U) (p (aQ bT U U aa (aw.ok (O.2) (bL aa))) (p (ld bF U (bM.get (i:=1) O.2 aa)) (e (cl Ao (Ex (r.getD 1 []) _ aa) U fun v10 ak ag=> ?_)))))))
 obtain ⟨rfl,s⟩:=ag
 have A:=j.wk s
 have J:=C.wk s
 refine p mv (p (xt U U) (p (xt U U) (p aA (p aA (nl (tn (ad _ _ (sq (fun an ae=>rg U (p (aB (.pointer (some ⟨H.rb,0,none⟩)) U) (p mv (eP U (bO jr (jD H.rb ln ((letE (r.getD 1 [])).2:Nat) ak J.cQ) U fun aE aF ah=> ?_) (fun c w' I aH j=>⟨ln,_,HF (by have :=I.2.1; omega),I.1,by rw [I.2.2]; exact Wk.mw s⟩)))))))))))))
 obtain ⟨rfl,Y,rfl⟩:=ah
 have Y:(letE (r.getD 1 [])).2=0:=aa
 refine nl (tn (ae _ _ (rg U (p (aB (.pointer (some ⟨H.rb,0,none⟩)) U) (p (nc U) (p (fa dX U) (p (ld dO U ((a4 J.cells).trans U)) (p mv (p (nc U) (p (fa dQ U) (p (fa Da U) (e (dp j9 U U (v:=str (letE (r.getD 1 [])).1) U A.cells (by show _ < 14; omega) fun aG G ab=>nl (fk (f0 U ?_)))))))))))))))
 have ac:=A.put (F':= {F with tr:=(letE (r.getD 1 [])).1}) G ab rfl rfl rfl rfl j.gC
 exact ⟨U,_,rows,ln,HG Y,⟨V,R,ac,(J.fb A G).congr U (fun _=>rfl),⟨a.len,a.sl,a.row,a.kd,a.al⟩⟩,(Wk.mw s).trans (c7.fb A G)⟩
theorem Er (B:Nat) (H:bw) (F:aM) (rows:List Rw) (ln:Nat) (seen:List Tx) (r:List Tx) (ak:Nat) (M:Option Addr) (O:Nat) (w:World) (I:St w B H F rows ln seen) (ac:Tg w ak 9 r.length (.slice M r.length O) (r.map str)) (aC:r.length=2) (av:∀ x∈r,x.length≤70000):
 c8 Tryz.prog 62 (List.toArray [.pointer (some ⟨H.rb,0,none⟩),.slice M r.length O]) w (eW B H seen (g5 F rows ln r) w) (eV B H (g5 F rows ln r) w):=by
 obtain ⟨V,R,q,s,A⟩:=I
 have ad:=ac.bN
 have ae:¬(H.rb=H.fb):=fun h=>by have h1:=s.cells; rw [h,q.cells] at h1; cases h1
 have aD:(r.getD 1 []).length≤70000:=av _ (dK aa)
 have ag:¬(bk M=H.fb):=Tg.nd ac (bL aa) q.cells ao
 obtain ⟨aK,aH,aI⟩:=s.tm
 obtain ⟨aJ,aE,aF⟩:=s.sm
 refine fI Tryz.func62 U Tryz.ntmps62 U (sq (fun az an=> ?_))
 have a:(fun w'=>Md (fun k=>k=H.fb) w w') w.drew:=(Md.refl _ _).drew
 refine bS (fun w'=>Md (fun k=>k=H.fb) w w') U wide a (hp 0 U ab (fun _ _=>aB (.pointer (some ⟨H.rb,0,none⟩)) U) a (hp 1 U ab (fun _ _=>nc U) a (hp 2 U ab (fun _ _=>fa dX U) a (hp 3 U ab (fun w' I=>ld dO U (Md.aG I ((a4 s.cells).trans U) (by first | exact ae | exact ag))) a (hp 4 U ab (fun _ _=>aB (.pointer (some ⟨H.rb,0,none⟩)) U) a (hp 5 U ab (fun _ _=>aB (.slice M r.length O) U) a (hp 6 U ab (fun _ _=>aQ bT U U aa (aw.ok (ad.2) (bL aa))) a (hp 7 U ab (fun w' I=>ld bF U (Md.aG I (bM.get (i:=1) ad.2 aa) (by first | exact ae | exact ag))) a (lY 8 U ab U (bO oa (oZ H.rb ln (r.getD 1 []) 64 w.drew s.cQ aa aa) U fun dG ax ap=> ?_) (fun c w' G ay q=>by obtain ⟨e,he,h,h2⟩:=G; exact ⟨ln,e,E1 he,h,Wk.mw (fz h2)⟩))))))))))
 obtain ⟨n,ah,rfl,j⟩:=ap
 have j:=fz j
 have C:=q.wk j
 have ar:=s.wk j
 have J:(fun w'=>Md (fun k=>k=H.fb) w w') ax:=Md.mono j (fun _ _ h=>h.elim)
 refine ⟨J,?_⟩
 refine hp 9 U ab (fun _ _=>nc U) J (hp 10 U ab (fun _ _=>fa dQ U) J (hp 11 U ab (fun _ _=>fa qL U) J (he 12 U ab (dp ju U U (v:= .int .i64 (n:Nat)) U C.cells (by show _ < 14; omega) fun aj E Z=> ?_))))
 have Y:=ar.fb C E
 have au:(fun w'=>Md (fun k=>k=H.fb) w w') aj:=J.trans' E (fun _ _ h=>h)
 refine ⟨au,?_⟩
 refine hn ab (tn (an _ _ (rg U (p (aB (.pointer (some ⟨H.rb,0,none⟩)) U) (p (aB (.pointer (some ⟨H.rb,0,none⟩)) U) (p (nc U) (p (fa dX U) (p (ld dO U ((a4 Y.cells).trans U)) (p (nc U) (p (fa dQ U) (p (fa qL U) (p (ld eu U ((a4 Z).trans U)) (p (gt U U) (eP U (bO ed (ej H.rb ln _ 13 aj Y.cQ ao) U fun aL aN aq=> ?_) (fun c w' G ay q=>by have aA:=of_decide_eq_false G.2.1; exact ⟨ln,13,E2 ah aa,G.1,by rw [G.2.2]; exact (Wk.mw j).trans (c7.fb C E)⟩)))))))))))))))
 obtain ⟨rfl,ai,rfl⟩:=aq
 have ai:=of_decide_eq_true ai
 refine nl (fk (f0 U ?_))
 have am:=C.put (F':= {F with least:=n}) E Z rfl rfl rfl rfl q.gC
 exact ⟨U,_,rows,ln,E3 ah aa,⟨V,R,am,Y.congr U (fun _=>rfl),⟨A.len,A.sl,A.row,A.kd,A.al⟩⟩,(Wk.mw j).trans (c7.fb C E)⟩
theorem En (B:Nat) (H:bw) (F:aM) (rows:List Rw) (ln:Nat) (seen:List Tx) (r:List Tx) (aR:Nat) (I:Option Addr) (M:Nat) (w:World) (J:St w B H F rows ln seen) (aj:Tg w aR 9 r.length (.slice I r.length M) (r.map str)) (bH:r.length=2) (bb:∀ x∈r,x.length≤70000):
 c8 Tryz.prog 58 (List.toArray [.pointer (some ⟨H.rb,0,none⟩),.slice I r.length M]) w (eW B H seen (gY F seen rows ln r) w) (eV B H (gY F seen rows ln r) w):=by
 obtain ⟨V,R,C,ac,O⟩:=J
 have bB:=aj.bN
 have aF:¬(H.rb=H.fb):=fun h=>by have h1:=ac.cells; rw [h,C.cells] at h1; cases h1
 have bI:(r.getD 1 []).length≤70000:=bb _ (dK aa)
 have aI:¬(bk I=H.fb):=Tg.nd aj (bL aa) C.cells ao
 obtain ⟨bQ,bJ,bK⟩:=ac.tm
 obtain ⟨bP,bi,bj⟩:=ac.sm
 refine fI Tryz.func58 U Tryz.ntmps58 U (sq (fun bs aY=>sq (fun bt aZ=>rg U (e (lM (L:=jH.map str) dC U U U U fun ap am bD a3 aV=> ?_)))))
 have az:bM am.heap (some ⟨ap,0,none⟩) jH:=aw.dj ⟨_,aV⟩
 have A:Wk w am:=a3.md
 have au:=C.wk A
 have ae:=ac.wk A
 have aD:=(aj.wk A).bN
 have bl:=bi.wk A
 have bG:jH.length=8:=rfl
 refine p (bo ea U U) (p mv (nl (tn (aZ _ _ (aC (lp (fun aq G q=> ∃ (i:Nat),(i≤8)∧(∀ j,j < i→jH.getD j []∉seen)∧(q=am)∧(G 0= .pointer (some ⟨H.rb,0,none⟩))∧(G 1= .slice I r.length M)∧(G 6= .slice (some ⟨ap,0,none⟩) 8 8)∧(G 7= .int .i64 (8:Nat))∧(G 8= .int .i64 (i:Nat))∧(8 - i=aq)) _ ⟨0,aa,((fun j aE=>by omega)),U,U,U,U,U,U,U⟩ ?_))))))
 rintro aq G q ⟨i,hi,aJ,aW,bc,bd,bf,bg,bh,rfl⟩
 refine fx 0 bc (fx 1 bd (fx 6 bf (fx 7 bg (fx 8 bh ?_))))
 subst aW
 refine sq (fun bv a0=>rg U (p (lt U U) (nl (tn (a0 _ _ (sq (fun bx a1=>cd U (fun ba=> ?_) (fun ba=> ?_))))))))
 refine aH (tn (a1 _ _ (sq (fun aS ah=>aC (sq (fun bz a2=>rg U (p (aQ bT U U aa (aw.ok (az) (bL aa))) (p (ld bF U (bM.get (i:=i) az aa)) (p aA (nl (tn (a2 _ _ (rg U (p (aB (.pointer (some ⟨H.rb,0,none⟩)) U) (p (aB (.pointer (some ⟨H.rb,0,none⟩)) U) (p (nc U) (p (fa lX U) (p (ld lK U ((a4 ae.cells).trans U)) (p mv (p (jy kN jU eI (bl) U U (⟨_,U⟩) (bj _)) (p (bp U U) (eP U (bO ed (ej H.rb ln _ 113 q ae.cQ ao) U fun v20 bU a5=> ?_) (fun c w' s br C=>⟨ln,113,Ek (k:=jH.getD i []) (dK aa) (by have h:=of_decide_eq_false s.2.1; exact Classical.not_not.1 fun h2=>h (by have :=List.count_eq_zero.2 h2; omega)),s.1,by rw [s.2.2]; exact Wk.mw A⟩)))))))))))))))))))))))
 obtain ⟨rfl,ak,rfl⟩:=a5
 have ak:jH.getD i []∉seen:=List.count_eq_zero.1 (by have :=of_decide_eq_true ak; omega)
 exact nl (bn (tn (ah _ _ (rg U (p (ad U U (bu aa)) (p mv (nl (tn (⟨_,aa,i+1,aa,((fun j aE=>by rcases Nat.lt_or_ge j i with h | h <;> first | exact aJ j h | (rw [show j=i by omega]; exact ak))),U,U,U,U,U,U,U⟩)))))))))
 refine ext (te _ (te _ (be (tn (aY _ _ (sq (fun aS ah=> ?_)))))))
 have aK:ordered seen=true :=(wH seen).2 fun k hk=>by obtain ⟨j,aE,rfl⟩:=m9 [] hk; exact aJ j aa
 have a:(fun w'=>Md (fun k=>k=H.fb) q w') q.drew:=(Md.refl _ _).drew
 refine bS (fun w'=>Md (fun k=>k=H.fb) q w') U wide a (hp 0 U ab (fun _ _=>aB (.pointer (some ⟨H.rb,0,none⟩)) U) a (hp 1 U ab (fun _ _=>nc U) a (hp 2 U ab (fun _ _=>fa dX U) a (hp 3 U ab (fun w' J=>ld dO U (Md.aG J ((a4 ae.cells).trans U) (by first | exact aF | exact aI))) a (hp 5 U ab (fun _ _=>aB (.slice I r.length M) U) a (hp 6 U ab (fun _ _=>aQ bT U U aa (aw.ok (aD.2) (bL aa))) a (hp 7 U ab (fun w' J=>ld bF U (Md.aG J (bM.get (i:=1) aD.2 aa) (by first | exact aF | exact aI))) a (he 4 U ab (lM (L:=kinds.map str) dC U U U U fun an aO bC ax aT=> ?_)))))))))
 have a8:bM aO.heap (some ⟨an,0,none⟩) kinds:=aw.dj ⟨_,aT⟩
 have Y:=fz ax.md
 have ay:(fun w'=>Md (fun k=>k=H.fb) q w') aO:=a.trans' ax.md (fun _ _ h=>h.elim)
 refine ⟨ay,?_⟩
 refine he 8 U ab (cl tC (vw kinds (some ⟨an,0,none⟩) 3 (r.getD 1 []) _ a8 ao) U fun v30 bq a6=> ?_)
 obtain ⟨aL,rfl⟩:=a6
 rw [Ei] at aL
 subst aL
 have bE:=Ej (r.getD 1 [])
 have E:(fun w'=>Md (fun k=>k=H.fb) q w') bq:=ay
 refine ⟨E,?_⟩
 refine hp 9 U ab (fun _ _=>bm ((gM (r.getD 1 []):Nat):Int) U U (aU aa aa)) E (hp 10 U ab (fun _ _=>nc U) E (hp 11 U ab (fun _ _=>fa dQ U) E (hp 12 U ab (fun _ _=>fa lV U) E (he 13 U ab (dp ju U U (v:= .int .i64 (gM (r.getD 1 []):Nat)) U ((au.wk Y).cells) (by show _ < 14; omega) fun aP Z ar=> ?_)))))
 have ag:=au.wk Y
 have ai:=(ae.wk Y).fb ag Z
 have av:=((Wk.mw A).trans (Wk.mw Y)).trans (c7.fb ag Z)
 have a9:(fun w'=>Md (fun k=>k=H.fb) q w') aP:=E.trans' Z (fun _ _ h=>h)
 refine ⟨a9,?_⟩
 refine hn ab (tn (ah _ _ (rg U (p (aB (.pointer (some ⟨H.rb,0,none⟩)) U) (p (aB (.pointer (some ⟨H.rb,0,none⟩)) U) (p (nc U) (p (fa dX U) (p (ld dO U ((a4 ai.cells).trans U)) (p (nc U) (p (fa dQ U) (p (fa lV U) (p (ld eu U ((a4 ar).trans U)) (p (gt U U) (eP U (bO ed (ej H.rb ln _ 114 aP ai.cQ ao) U fun bR bV a7=> ?_) (fun c w' s br C=>by have bA:=of_decide_eq_false s.2.1; exact ⟨ln,114,El aK aa,s.1,by rw [s.2.2]; exact av⟩)))))))))))))))
 obtain ⟨rfl,aN,rfl⟩:=a7
 have aN:=of_decide_eq_true aN
 refine nl (fk (f0 U ?_))
 have aX:=ag.put (F':= {F with kind:=gM (r.getD 1 [])}) Z ar rfl rfl rfl rfl C.gC
 exact ⟨U,_,rows,ln,Em aK aa,⟨V,R,aX,ai.congr U (fun _=>rfl),⟨O.len,O.sl,O.row,(by show gM (r.getD 1 [])=1∨gM (r.getD 1 [])=2∨gM (r.getD 1 [])=3; omega),O.al⟩⟩,av⟩
end Go.Hb.jV
end
section
set_option maxRecDepth 20000
set_option maxHeartbeats 1000000
namespace Go.Hb.lD
open Go.Hb.c6
open Go.Proofs
open Go.Hb.gG
theorem tK {h:Array Obj} {b:Nat} {f:UInt8→Bool} (a:bl h b (cB f)) (c:UInt8):Hb.aG h b (0 +((c.toNat / 64:Nat):Int).toNat*1)=some (.int .u64 (cM f (c.toNat / 64))):=by
 have i:=UInt8.toNat_lt c
 rw [a.aG,show 0 +((c.toNat / 64:Nat):Int).toNat*1=c.toNat / 64 from by omega]; exact qj f aa
theorem A0 {h:Array Obj} {b:Nat} {f:UInt8→Bool} {c:UInt8} (a:bl h b ((cB f).set (0 +((c.toNat / 64:Nat):Int).toNat*1) (.int .u64 ((cM f (c.toNat / 64) ||| 2 ^ (c.toNat % 64):Nat):Int)))):bl h b (cB (fun x=>f x || decide (x=c))):=by
 rw [show 0 +((c.toNat / 64:Nat):Int).toNat*1=c.toNat / 64 from by omega,AY] at a; exact a
theorem AZ {f g:UInt8→Bool} (h:∀ b,f b=g b):cB f=cB g:=by rw [show f=g from funext h]
theorem DP {l:List UInt8} {i:Nat} (h:i < l.length) (x:UInt8):(decide (x∈l.take i) || decide (x=l.getD i 0))=decide (x∈l.take (i+1)):=by
 rw [eT l i 0 h,← Bool.decide_or]
 exact decide_eq_decide.2 (by rw [List.mem_append,List.mem_singleton])
theorem rF {w:World} {B e n c i:Nat} {a:Option Addr} {l:List UInt8} (h:w.ownsRow B e 1 (.slice a n c) n (U8 l)) (hi:i≤n) (hn:0 < n):w.ownsRow B e 1 (.slice a i c) i (U8 (l.take i)):=by
 have j:a≠none:=by
  rintro rfl
  rcases h.2 with ⟨_,h5⟩ | ⟨g,cap,cur,h4,_⟩
  · omega
  · simp at h4
 have :=wP h hi j
 rw [Nat.mul_one] at this
 unfold U8 at*
 rwa [List.map_take]
theorem FK {w:World} {B e n c:Nat} {a:Option Addr} {xs:List Value} (h:w.ownsRow B e 1 (.slice a n c) n xs) (hn:0 < n):∃ i,a=some ⟨i,0,none⟩:=by
 rcases h.2 with ⟨_,h5⟩ | ⟨g,cap,cur,h4,_⟩
 · omega
 · simp only [Value.slice.injEq] at h4; exact ⟨g,h4.1⟩
theorem HL {w:World} {B e n c j:Nat} {a:Option Addr} {l:List UInt8} (h:w.ownsRow B e 1 (.slice a n c) n (U8 l)):aw w.heap (dz a c j 1) (U8 (l.drop j)):=by
 have h2:=(aJ h).2.drop (cap:=c) (k:=j) (size:=1) (by have h1:=h.1; have h3:=(aJ h).1; omega)
 rw [Nat.mul_one] at h2
 unfold U8 at*
 rwa [List.map_drop]
theorem r4 {w:World} {B e n:Nat} {v:Value} {l:List UInt8} (h:w.ownsRow B e 1 v n (U8 l)):l.length=n:=by have :=h.1; rw [nR] at this; omega
theorem wX (b:Nat) (c:UInt8) (f:UInt8→Bool) (w:World) (i:bl w.heap b (cB f)):
 a3 Tryz.prog 136 (List.toArray [a6 b,.int .u8 c.toNat]) w (fun v w'=>v= .tuple #[]∧bl w'.heap b (cB (fun x=>f x || decide (x=c)))∧Md (fun q=>q=b) w w'):=by
 have C:=UInt8.toNat_lt c
 refine enter Tryz.func136 U Tryz.ntmps136 U ?_
 have a:(fun w'=>Wk w w') w.drew:=(Md.refl _ _).drew
 refine dy (fun w'=>Wk w w') 12 U wide a (aV 0 U (a6 b) a (aV 1 U (.int .u8 c.toNat) a (bc 2 U (fun _=>shr U U ao (xr c)) (fun _=>a) (bc 3 U (fun _=>nc U) (fun _=>a) (bc 4 U (fun _=>je kZ U U aa) (fun _=>a) (cY 5 U (fun w' A=>ld lI U (Wk.aG A (tK i c))) a (aV 6 U (.int .u8 c.toNat) a (bc 7 U (fun _=>n0 U U (sL c)) (fun _=>a) (bc 8 U (fun _=>shl U U aa (GR aa)) (fun _=>a) (bc 9 U (fun _=>sS U U (FA (mq _ _) (Nat.pow_lt_pow_right ao aa))) (fun _=>a) (bc 10 U (fun _=>nc U) (fun _=>a) (bc 11 U (fun _=>je kZ U U aa) (fun _=>a) (bV 12 U ab ab (st By U U (U) (a.B i) (by rw [oe]; omega) fun E s p=> ?_))))))))))))))
 have j:=A0 p
 refine dx ab (f0 U ?_)
 exact ⟨U,j,Md.trans (Md.refl _ _).drew s⟩
theorem Dp (f:UInt8→Bool) (c:UInt8) (w:World):
 a3 Tryz.prog 153 (List.toArray [.agg (cB (f)).toArray,.int .u8 c.toNat]) w (fun v w'=>v= .bool (f c)∧Wk w w'):=by
 have C:=UInt8.toNat_lt c
 exact enter Tryz.func153 U Tryz.ntmps153 U (ag (fun _ a=>(e (gx U fun s E A q j=>au (((a _ _ (ag (fun _ i=>aj (.int .u8 c.toNat) (p (shr U U ao (xr c)) (p (je kZ U U aa) (p (ld lI U (tK j c)) (aj (.int .u8 c.toNat) (p (n0 U U (sL c)) (p (shr U U aa (GX _ aa)) (p (n0 U U (yL (Nat.lt_of_le_of_lt (Nat.div_le_self _ _) (mq _ _)))) (p (bp U U) (au (((i _ _ (rt (f1 U U (⟨congrArg Value.bool (H5 f c),q.md⟩))))))))))))))))))))))))
theorem rE (f:UInt8→Bool) (w:World):
 a3 Tryz.prog 135 (List.toArray [.agg (cB (f)).toArray]) w (fun v w'=>v= .agg (cB (fun x=> !f x)).toArray∧Wk w w'):=by
 exact enter Tryz.func135 U Tryz.ntmps135 U (ag (fun _ q=>(e (gx U fun G V J i c=>e (al lB fun I Y M a A=>az ((q _ _ (ag (fun _ s=>p (je kZ U U aa) (p (ld lI U ((a.md.B c).aG 0)) (p (og U) (p (je kZ U U aa) (p (ld lI U ((a.md.B c).aG 1)) (p (og U) (p (je kZ U U aa) (p (ld lI U ((a.md.B c).aG 2)) (p (og U) (p (je kZ U U aa) (p (ld lI U ((a.md.B c).aG 3)) (p (og U) (p (sR (ps:= [(0,.int .u64 (cM (fun x=> !f x) 0:Nat)),(1,.int .u64 (cM (fun x=> !f x) 1:Nat)),(2,.int .u64 (cM (fun x=> !f x) 2:Nat)),(3,.int .u64 (cM (fun x=> !f x) 3:Nat))]) (L:= [.int .u64 (cM (fun x=> !f x) 0:Nat),.int .u64 (cM (fun x=> !f x) 1:Nat),.int .u64 (cM (fun x=> !f x) 2:Nat),.int .u64 (cM (fun x=> !f x) 3:Nat)]) sO U (U)) (e (b8 j8 U (vs:=cB (fun x=> !f x)) U U U A ao fun Z E C=>az ((s _ _ (rt (mU U (dm U gw U (fun j O=>by rw [Nat.zero_add]; exact C.aG j)) (⟨U,Md.trans' (Md.trans i.md a.md) E (fun k hk h=>by have :=i.md.size; omega)⟩))))))))))))))))))))))))))))
theorem vg (f:UInt8→Bool) (c:UInt8) (ci:Int) (w:World) (a:(c.toNat:Int)=ci):a3 Tryz.prog 153 (List.toArray [.agg (cB (f)).toArray,.int .u8 ci]) w (fun v w'=>v= .bool (f c)∧Wk w w'):=by
 subst a; exact Dp f c w
theorem sX (f:UInt8→Bool) (w:World):
 a3 Tryz.prog 152 (List.toArray [.agg (cB (f)).toArray]) w (fun v w'=>World.ownsRow w' w.heap.size 5 1 (v) ((bytesOf f)).length (U8 ((bytesOf f)))∧Wk w w'):=by
 refine enter Tryz.func152 U Tryz.ntmps152 U (ag (fun _ Y=>(e (gx U fun am M aN I an=>au (((Y _ _ (ag (fun _ Z=>au (((Z _ _ (sq (fun _ ab=>ag (fun _ ac=>(p mv (nl (tn (ac _ _ (aC (lp (fun O G E=> ∃ (i:Nat) (a:Value),(i≤256)∧(World.ownsRow E M.heap.size 5 1 (a) ((j5 f i)).length (U8 ((j5 f i))))∧(Wk M E)∧(G 1=a6 am)∧(G 3=a)∧(G 5=ae i)∧(256 - i=O)) _ ⟨0,.slice none 0 0,aa,(World.ownsRow_nil _ _ _ _),(Md.refl _ _),U,U,U,U⟩ ?_)))))))))))))))))))))
 rintro O G E ⟨i,a,hi,C,q,aD,aF,aI,rfl⟩
 refine fx 1 aD (fx 3 aF (fx 5 aI ?_))
 have aM:Wk w E:=Md.trans I.md q
 have aP:=mG f i
 have aS:=q.size
 refine ag (fun _ ah=>(p (lt U U) (az ((ah _ _ (sq (fun _ ai=>cd U (fun ax=> ?_) (fun ax=> ?_))))))))
 refine aH (tn (ai _ _ (sq (fun _ s=>aC (ag (fun _ ak=>(aj (ae i) (p (bG (ae i) U) (az ((ak _ _ (ag (fun _ al=>(p (cC gw U (U) (fun j aR=>by rw [Nat.zero_add]; exact (q.B an).aG j)) (aj (ae i) (p (jb u5 lz U (sc aa)) (e (cl th (vg f (UInt8.ofNat i) _ _ (xS i aa)) U fun v11 aU av=> ?_))))))))))))))))))
 obtain ⟨rfl,c⟩:=av
 refine az ((al _ _ (cb U (fun J=> ?_) (fun J=> ?_))))
 refine rg U (aj (a) (aj (ae i) (p (jb u5 lz U (sc aa)) (e (eY gp U U fun aL aV aO A ao=>e (ap gp (aE (aE C c) A.md) U (by have :=c.size; have :=A.md.size; omega) U (aw.dj ao) (U) (U) aa aa fun aJ aK V ar aT aQ=> ?_))))))
 rw [← xS i aa] at V
 have aB:=oY V
 have aq:Wk M aK:=Wk.own (Md.trans (Md.trans q c) A.md) (aE (aE C c) A.md) ar (Nat.le_refl _)
 exact p aA (nl (bn (tn (s _ _ (rg U (p (ad U U (bu aa)) (p mv (nl (tn (⟨_,aa,i+1,aJ,aa,((by rw [sW,if_pos J]; exact aB)),aq,U,U,U,U⟩))))))))))
 exact aH (bn (tn (s _ _ (rg U (p (ad U U (bu aa)) (p mv (nl (tn (⟨_,aa,i+1,a,aa,((by rw [sW,if_neg (by rw [J]; exact Bool.noConfusion),List.append_nil]; exact aE C c)),(Md.trans q c),U,U,U,U⟩)))))))))
 refine ext (te _ (te _ (be (tn (ab _ _ (ag (fun _ s=>(aj (a) (p (bG (a) U) (az ((s _ _ (rt (f1 U U ?_))))))))))))))
 have ay:i=256:=aa
 subst ay
 exact ⟨ga C I.md.size,Md.trans I.md q⟩
theorem A4 (s:List UInt8) (w:World) (hs:s.length≤1048576):
 a3 Tryz.prog 151 (List.toArray [str s]) w (fun v w'=>v= .agg (cB (fun x=>decide (x∈s))).toArray∧Wk w w'):=by
 refine enter Tryz.func151 U Tryz.ntmps151 U (ag (fun _ Z=>(e (al lB fun C aP aL V G=>az ((Z _ _ (ag (fun _ ab=>(e (al lB fun c aK aN Y ap=> ?_))))))))))
 have aq:bl aK.heap c (cB (fun x=>decide (x∈s.take 0))):=by rw [show (fun x=>decide (x∈s.take 0))=(fun _:UInt8=>false) from funext fun x=>by simp,qk]; exact ap
 refine az ((ab _ _ (sq (fun _ ac=>ag (fun _ ah=>(aj (str s) (p (cA u9 U U) (p mv (az ((ah _ _ (aC ?_))))))))))))
 have aM:=G.lt
 refine lp (fun E a q=> ∃ (i:Nat),(i≤s.length)∧(bl q.heap c (cB (fun x=>decide (x∈s.take i))))∧(bl q.heap C [.int .u64 0,.int .u64 0,.int .u64 0,.int .u64 0])∧(Wk w q)∧(a 0=str s)∧(a 2=a6 C)∧(a 3=a6 c)∧(a 6=ae (s.length))∧(a 7=ae i)∧(s.length - i=E)) _ ⟨0,aa,aq,(Y.md.B G),(Md.trans V.md Y.md),U,U,U,U,U,U⟩ ?_
 rintro E a q ⟨i,hi,I,J,M,aA,aB,aD,aE,aF,rfl⟩
 refine fx 0 aA (fx 2 aB (fx 3 aD (fx 6 aE (fx 7 aF (ag (fun _ ai=>(p (lt U U) (az ((ai _ _ (sq (fun _ ak=>cd U (fun ax=> ?_) (fun ax=> ?_)))))))))))))
 refine aH (tn (ak _ _ (sq (fun _ A=>aC (ag (fun _ am=>(aj (ae i) (p (bG (ae i) U) (az ((am _ _ (rg U (aj (str s) (aj (ae i) (p (e7 u9 U U aa) (e (cl ta (wX c (s.getD i 0) _ _ I) U fun aO aJ aw=> ?_)))))))))))))))))
 obtain ⟨rfl,an,O⟩:=aw
 have au:Wk w aJ:=Md.trans' M O (fun k hk h=>by have :=V.md.size; omega)
 exact nl (bn (tn (A _ _ (rg U (p (ad U U (bu aa)) (p mv (nl (tn (⟨_,aa,i+1,aa,((by rw [AZ (fun x=>(DP (show i < s.length by omega) x).symm)]; exact an)),(O.B J (fun h=>by omega)),au,U,U,U,U,U,U⟩)))))))))
 refine ext (te _ (te _ (be (tn (ac _ _ (ag (fun _ A=>(p (cC gw U (U) (fun j ay=>by rw [Nat.zero_add]; exact (I).aG j)) (e (b8 j8 U (vs:=cB (fun x=>decide (x∈s.take i))) U U U J ao fun aQ av ar=>az ((A _ _ (rt (mU U (dm U gw U (fun j ay=>by rw [Nat.zero_add]; exact ar.aG j)) ?_))))))))))))))
 have aI:s.take i=s:=List.take_of_length_le aa
 rw [aI]
 exact ⟨U,Md.trans' M av (fun k hk h=>by omega)⟩
theorem DR (s:List UInt8) (c:UInt8) (w:World):
 a3 Tryz.prog 149 (List.toArray [str s,.int .u8 c.toNat]) w (fun v w'=>v= .int .i64 (cX c s)∧Wk w w'):=by
 exact enter Tryz.func149 U Tryz.ntmps149 U (ag (fun _ a=>(au (((a _ _ (ag (fun _ i=>(aj (str s) (aj (.int .u8 c.toNat) (e (cl td (vv s c _) U fun p q j=>au (((i _ _ (rt (f1 U U (j))))))))))))))))))
theorem Bp (s a:List UInt8) (w:World) (hs:s.length≤1099511627776) (I:a.length≤1099511627776):
 a3 Tryz.prog 174 (List.toArray [str s,str a]) w (fun v w'=>v= .tuple #[str (dZ s a),.bool (decide (s.take a.length=a))]∧Wk w w'):=by
 refine enter Tryz.func174 U Tryz.ntmps174 U (ag (fun _ A=>(p aA (au (((A _ _ (sq (fun _ C=>sq (fun _ E=>rg U (aj (str s) (aj (str a) (e (cl s8 (vf s a _ hs I) U fun M O G=> ?_))))))))))))))
 obtain ⟨rfl,q⟩:=G
 refine p (no U) (az ((E _ _ (cb U (fun j=> ?_) (fun j=> ?_)))))
 have c:¬s.take a.length=a:=by simpa using j
 exact ag (fun _ i=>(aj (str s) (p (bG (str s) U) (au (((i _ _ (rt (tr (f2 U U U (⟨by unfold dZ; rw [if_neg c,decide_eq_false c]; rfl,q⟩)))))))))))
 have c:s.take a.length=a:=by simpa using j
 have J:=rI c
 exact aH (tn (C _ _ (ag (fun _ i=>(aj (str s) (aj (str a) (p (cA u9 U U) (p (km u9 U U aa) (p aA (au (((i _ _ (rt (f2 U U U (⟨by unfold dZ; rw [if_pos c,decide_eq_true c]; rfl,q⟩))))))))))))))))
theorem Bq (s a:List UInt8) (w:World) (hs:s.length≤1099511627776) (A:a.length≤1099511627776):
 a3 Tryz.prog 150 (List.toArray [str s,str a]) w (fun v w'=>v= .tuple #[str (dZ s a),.bool (decide (s.take a.length=a))]∧Wk w w'):=by
 refine enter Tryz.func150 U Tryz.ntmps150 U (ag (fun _ c=>(p aA (au (((c _ _ (ag (fun _ i=>aj (str s) (aj (str a) (e (cl zP (Bp s a _ hs A) U fun C E q=> ?_))))))))))))
 obtain ⟨rfl,j⟩:=q
 exact p (xt U U) (p (xt U U) (p aA (au (((i _ _ (rt (f2 U U U (⟨U,j⟩)))))))))
theorem Hz (s a:List UInt8):(dZ s a).length≤s.length:=by unfold dZ; split <;> simp
def eN (s:List UInt8) (k:Nat):List UInt8:=(s.drop k).take ((s.drop k).idxOf 93)
theorem yY (s:List UInt8) (k:Nat):(eN s k).length≤s.length:=by unfold eN; rw [List.length_take,List.length_drop]; omega
theorem yX (s:List UInt8) (k:Nat):(s.take (k+(s.drop k).idxOf 93)).drop k=eN s k:=by
 rw [List.drop_take,Nat.add_sub_cancel_left]; rfl
def kB (s:List UInt8) (k:Nat):UInt8→Bool:=fun x=>if (eN s k).take 1= [94] then !decide (x∈dZ (eN s k) [94]) else decide (x∈dZ (eN s k) [94])
theorem y5 {s:List UInt8} {k:Nat} (h:(eN s k).take [(94:UInt8)].length= [94]):kB s k=fun x=> !decide (x∈dZ (eN s k) [94]):=by
 funext x; exact if_pos h
theorem y6 {s:List UInt8} {k:Nat} (h:¬(eN s k).take [(94:UInt8)].length= [94]):kB s k=fun x=>decide (x∈dZ (eN s k) [94]):=by
 funext x; exact if_neg h
theorem yZ (s:List UInt8) (k:Nat) (w:World) (hs:s.length≤1048576) (hk:k≤s.length):
 a3 Tryz.prog 134 (List.toArray [str s,ae k]) w (fun v w'=>(∃ f,v= .tuple #[.agg (cB f).toArray,.int .i64 (if cX 93 (s.drop k) < 0 then 0 else ((k+(s.drop k).idxOf 93 +1:Nat):Int)),.bool (!decide (cX 93 (s.drop k) < 0) && decide (dZ (eN s k) [94]≠[]))]∧(¬cX 93 (s.drop k) < 0→f=kB s k))∧Wk w w'):=by
 refine enter Tryz.func134 U Tryz.ntmps134 U (ag (fun _ ar=>(e (al lB fun ac bp a7 G E=>p aA (au (((ar _ _ (sq (fun _ av=>rg U (aj (str s) (aj (ae k) (p (km u9 U U aa) (e (cl zw (DR (s.drop k) 93 _) U fun bd bi aQ=> ?_)))))))))))))))
 obtain ⟨rfl,a⟩:=aQ
 have ba:(s.drop k).length=s.length - k:=List.length_drop
 refine au (((av _ _ (sq (fun _ aw=>ag (fun _ ax=>(p mv (p (lt U U) (az ((ax _ _ (cd U (fun i=> ?_) (fun i=> ?_)))))))))))))
 refine ag (fun _ J=>(p (sR (ps:= []) (L:= [.int .u64 0,.int .u64 0,.int .u64 0,.int .u64 0]) sO U (U)) (e (b8 j8 U (vs:=cB (fun _=>false)) (by rw [qk]; rfl) U U (a.B E) ao fun bn aO aC=>p aA (au (((J _ _ (rt (tr (uA U (dm U gw U (fun j Z=>by rw [Nat.zero_add]; exact aC.aG j)) dS dS ?_)))))))))))
 refine ⟨⟨fun _=>false,by rw [if_pos i,decide_eq_true i]; rfl,fun h=>absurd i h⟩,Md.trans' (Md.trans G.md a) aO (fun k hk h=>by omega)⟩
 have bb:=lZ (c:=93) (l:=s.drop k) i
 have a9:(eN s k).length≤s.length:=yY s k
 refine aH (tn (aw _ _ (sq (fun _ J=> ?_))))
 have aq:=yX s k
 refine rg U (aj (str s) (aj (ae k) (aj (ae k) (p mv (p (bm ((k+(s.drop k).idxOf 93:Nat):Int) U U (aU aa aa)) (p (kL u9 U U U aa) (e (cl zx (Bq ((s.take (k+(s.drop k).idxOf 93)).drop k) [94] _ (by rw [aq]; omega) ao) U fun bf bj ap=> ?_))))))))
 rw [aq] at ap
 obtain ⟨rfl,A⟩:=ap
 have bc:=Hz (eN s k) [94]
 refine p mv (p (xt U U) (p (xt U U) (p aA (au (((J _ _ (sq (fun _ ay=>rg U (p mv (e (cl zy (A4 (dZ (eN s k) [94]) _ aa) U fun bg bk aR=> ?_))))))))))))
 obtain ⟨rfl,C⟩:=aR
 refine e (al lB fun ab a0 a5 an aB=> ?_)
 have aK:Wk w a0:=Md.trans G.md (Md.trans a (Md.trans A (Md.trans C an.md)))
 have ad:=an.md.B (C.B (A.B (a.B E)))
 have a8:=ad.lt
 refine e (b8 j8 U (vs:=cB (fun x=>decide (x∈dZ (eN s k) [94]))) U U U aB ao fun a1 ak O=> ?_)
 have ai:Wk w a1:=Md.trans' aK ak (fun k hk h=>by have :=G.md.size; have :=a.size; have :=A.size; have :=C.size; omega)
 have ah:=ak.B ad (fun h=>by have :=E.lt; have :=a.size; have :=A.size; have :=C.size; omega)
 refine az ((ay _ _ ?_))
 refine dA (fun q I=>(bl I.heap ab (cB (kB s k)))∧(bl I.heap ac [.int .u64 0,.int .u64 0,.int .u64 0,.int .u64 0])∧(Wk w I)∧(q 0=str s)∧(q 1=ae k)∧(q 4=a6 ac)∧(q 7= .int .i64 (cX 93 (s.drop k)))∧(q 8=str (dZ (eN s k) [94]))∧(q 10=a6 ab)) ?_ ?_
 refine ag (fun _ M=>(p mv (az ((M _ _ (cb U (fun Y=> ?_) (fun Y=> ?_)))))))
 refine rg U (p (cC gw U (U) (fun j Z=>by rw [Nat.zero_add]; exact (O).aG j)) (e (cl p4 (rE (fun x=>decide (x∈dZ (eN s k) [94])) _) U fun bh bo aS=> ?_)))
 obtain ⟨rfl,V⟩:=aS
 refine e (b8 j8 U (vs:=cB (fun x=> !decide (x∈dZ (eN s k) [94]))) U U U (V.B O) (Nat.le_refl 4) fun a2 am aE=> ?_)
 have aL:Wk w a2:=Md.trans' (Md.trans ai V) am (fun k hk h=>by have :=G.md.size; have :=a.size; have :=A.size; have :=C.size; omega)
 have aD:=am.B (V.B ah) (fun h=>by have :=E.lt; have :=a.size; have :=A.size; have :=C.size; omega)
 exact az ((⟨((by rw [y5 (by simpa using Y)]; exact aE)),aD,aL,U,U,U,U,U,U⟩))
 exact aH (tn (⟨((by rw [y6 (by simpa using Y)]; exact O)),ah,ai,U,U,U,U,U,U⟩))
 rintro q I ⟨aI,aJ,aN,aT,aV,aX,aY,aZ,aW⟩
 refine fx 0 aT (fx 1 aV (fx 4 aX (fx 7 aY (fx 8 aZ (fx 10 aW (ag (fun _ M=>(p (cC gw U (U) (fun j Z=>by rw [Nat.zero_add]; exact (aI).aG j)) (aj (ae k) (aj (.int .i64 (cX 93 (s.drop k))) (p (bm ((k+(s.drop k).idxOf 93:Nat):Int) U U (aU aa aa)) (p (bm ((k+(s.drop k).idxOf 93 +1:Nat):Int) U U (aU aa aa)) (aj (str (dZ (eN s k) [94])) (p (l5 U U) (e (b8 j8 U (vs:=cB (kB s k)) U U U aJ ao fun a4 aP aF=> ?_))))))))))))))))
 have aM:Wk w a4:=Md.trans' aN aP (fun k hk h=>by omega)
 refine p aA (au (((M _ _ (rt (uA U (dm U gw U (fun j Z=>by rw [Nat.zero_add]; exact aF.aG j)) dS dS ?_))))))
 refine ⟨⟨kB s k,by rw [if_neg i,decide_eq_false i]; rfl,fun _=>rfl⟩,aM⟩
theorem DQ (l:List UInt8) (a:Option Addr) (n c:Nat) (x:UInt8) (w:World) (E:aw w.heap a (U8 l)) (hn:l.length=n) (aq:n≤1048576):
 a3 Tryz.prog 154 (List.toArray [.slice a n c,.int .u8 x.toNat]) w (fun v w'=>v= .int .i64 (cX x l)∧Wk w w'):=by
 refine enter Tryz.func154 U Tryz.ntmps154 U (ag (fun _ M=>(au (((M _ _ (sq (fun _ O=>ag (fun _ V=>aj (.slice a n c) (p (bo jN U U) (p mv (az ((V _ _ (aC (lp (fun C q J=> ∃ (i:Nat),(i≤n)∧(∀ j,j < i→l.getD j 0≠x)∧(J=w)∧(q 0= .slice a n c)∧(q 1= .int .u8 x.toNat)∧(q 7=ae n)∧(q 8=ae i)∧(n - i=C)) _ ⟨0,aa,((fun j I=>by omega)),U,U,U,U,U,U⟩ ?_))))))))))))))))
 rintro C q J ⟨i,hi,A,ai,al,am,an,ao,rfl⟩
 refine fx 0 al (fx 1 am (fx 7 an (fx 8 ao ?_)))
 subst ai
 refine ag (fun _ Y=>(p (lt U U) (az ((Y _ _ (sq (fun _ Z=>cd U (fun ak=> ?_) (fun ak=> ?_))))))))
 refine aH (tn (Z _ _ (sq (fun _ s=>aC (ag (fun _ ab=>(aj (ae i) (p (bG (ae i) U) (az ((ab _ _ (ag (fun _ ac=>(aj (.int .u8 x.toNat) (aj (.slice a n c) (aj (ae i) (p (aQ jw U U aa (aw.ok (E) (nC aa))) (p (ld mC U (nB (i:=i) E aa)) (p (bp U U) (az ((ac _ _ (cd U (fun G=> ?_) (fun G=> ?_))))))))))))))))))))))))
 have ap:l.getD i 0=x:=UInt8.toNat_inj.1 aa
 exact ag (fun _ ah=>(aj (ae i) (p (bG (ae i) U) (az ((ah _ _ (rt (br (tr (tr (br (tr (f1 U U (⟨by rw [D8 (show i < l.length by omega) A ap]; rfl,Md.refl _ _⟩))))))))))))))
 exact aH (bn (tn (s _ _ (rg U (p (ad U U (bu aa)) (p mv (nl (tn (⟨_,aa,i+1,aa,((fun j I=>by rcases Nat.lt_or_ge j i with h | h <;> first | exact A j h | (rw [show j=i by omega]; exact fun h2=>G (by rw [h2])))),U,U,U,U,U,U⟩)))))))))
 exact ext (te _ (te _ (be (tn (O _ _ (ag (fun _ s=>(p aA (az ((s _ _ (rt (f1 U U (⟨by rw [D9 (fun j I=>A j aa)]; rfl,Md.refl _ _⟩))))))))))))))
theorem BW (l:List UInt8) (i j:Nat) (B n c a:Nat) (w:World) (A:World.ownsRow w B 5 1 (.slice (some ⟨a,0,none⟩) n c) n (U8 l)) (ak:i < j∧j≤n) (am:n≤1048576):
 a3 Tryz.prog 155 (List.toArray [.slice (some ⟨a,0,none⟩) n c,ae i,ae j]) w (fun v w'=>v= .slice (some ⟨a,0,none⟩) (i+(n - j)) c∧World.ownsRow w' B 5 1 (.slice (some ⟨a,0,none⟩) (i+(n - j)) c) (i+(n - j)) (U8 (l.take i++l.drop j))∧Md (fun q=>q=a) w w'):=by
 have al:=r4 A
 have ai:=(aJ A).1
 refine enter Tryz.func155 U Tryz.ntmps155 U (ag (fun _ C=>(au (((C _ _ (ag (fun _ E=>(aj (.slice (some ⟨a,0,none⟩) n c) (aj (ae i) (aj (ae j) (aj (.slice (some ⟨a,0,none⟩) n c) (p (bo jN U U) (p (G1 jw U U U U aa) (az ((E _ _ (sq (fun _ G=>ag (fun _ I=>(aj (ae i) (aj (ae j) (p (bp U U) (az ((I _ _ (cd U (fun h=>absurd h aa) (fun ah=>aH (tn (G _ _ (ag (fun _ J=>(aj (.slice (some ⟨a,0,none⟩) n c) (p (bo jN U U) (p aA (nl (tn (J _ _ (sq (fun _ M=> ?_))))))))))))))))))))))))))))))))))))))))
 have s:(fun w'=>Wk w w') w.drew:=(Md.refl _ _).drew
 refine dy (fun w'=>Wk w w') 6 U wide s (aV 0 U (.slice (some ⟨a,0,none⟩) n c) s (aV 1 U (ae i) s (bc 2 U (fun _=>nr jw U U aa) (fun _=>s) (aV 3 U (.slice (some ⟨a,0,none⟩) n c) s (aV 4 U (ae j) s (bc 5 U (fun _=>me jw U U aa) (fun _=>s) (bV 6 U ab ab (yO (B:=B) (xs:=U8 (l.take i)) (news:=U8 (l.drop j)) (n:=i) (m:=n - j) gp (rF (aE A s) aa aa) U U (show aw _ (dz (some ⟨a,0,none⟩) c j 1) (U8 (l.drop j)) from HL (aE A s)) (by unfold dz; split <;> simp) (by rw [nR,List.length_drop]; omega) (yr _) aa fun an Y ac=>bc 7 U (fun _=>aA) (fun h=>Bool.noConfusion ((show true =_ from by kernel_rfl).trans h)) (dx ab (tn (M _ _ (ag (fun _ O=>(aj (.slice (some ⟨a,0,none⟩) (i+(n - j)) c) (aj (.slice (some ⟨a,0,none⟩) (i+(n - j)) c) (p (bo jN U U) (p mv (p (G2 jw U U U aa) ?_))))))))))))))))))
 exact e (AU jN Is U ac (by simp) U aa fun ao Z ad=>az ((O _ _ (ag (fun _ V=>(aj (.slice (some ⟨a,0,none⟩) (i+(n - j)) c) (p (bG (.slice (some ⟨a,0,none⟩) (i+(n - j)) c) U) (nl (tn (V _ _ (rt (f1 U U (⟨U,by rw [nQ]; exact ad,Md.trans (s.mono (fun _ _ h=>h.elim)) (Md.trans Y (Z.mono (fun q _ h=>by simpa [Value.ownBlock] using h.symm)))⟩)))))))))))))
end Go.Hb.lD
end
section
set_option maxRecDepth 20000
set_option maxHeartbeats 1000000
namespace Go.Hb.mz
open Go.Hb.c6
open Go.Proofs
open Go.Hb.gG Go.Hb.lD
theorem sT {s:List UInt8} {k:Nat} (h:(s.drop k).idxOf 93 < (s.drop k).length):dZ (eN s k) [94]≠[]↔(s.drop k).idxOf 93≠0∧¬((s.drop k).idxOf 93=1∧(s.drop k).getD 0 0=94):=by
 unfold eN dZ
 generalize c:s.drop k=l at*
 cases l with
 | nil=>simp at h
 | cons b r=>
   generalize hm:(b::r).idxOf 93=m at*
   cases m with
   | zero=>simp
   | succ m=>
     simp only [List.length_cons] at h
     simp only [List.take_succ_cons,List.length_singleton,List.take_zero,List.getD_cons_zero,List.drop_succ_cons,List.drop_zero]
     by_cases a:b=94
     · subst a
       rw [if_pos rfl]
       cases m with
       | zero=>simp
       | succ m=>
         cases r with
         | nil=>simp at h
         | cons x r=>simp
     · rw [if_neg (by simpa using a)]
       simp [a]
theorem y7 {s:List UInt8} {k:Nat} (h:(s.drop k).idxOf 93 < (s.drop k).length) (j:(s.drop k).idxOf 93≠0):kB s k=eE (91::(s.drop k).take ((s.drop k).idxOf 93 +1)):=by
 funext x
 unfold kB eN dZ eE
 generalize q:s.drop k=l at*
 cases l with
 | nil=>simp at h
 | cons b r=>
   generalize hm:(b::r).idxOf 93=m at*
   cases m with
   | zero=>exact absurd rfl j
   | succ m=>
     simp only [List.length_cons] at h
     have p:(91::List.take (m+1 +1) (b::r)).length=m+3:=by simp only [List.length_cons,List.length_take]; omega
     rw [p,if_neg (show ¬m+3=1 by omega)]
     have c:(91::List.take (m+1 +1) (b::r)).getD 1 0=b:=rfl
     have i:List.take (m+3 - 1) (91::List.take (m+1 +1) (b::r))=91::List.take (m+1) (b::r):=by
      show List.take (m+2) (91::List.take (m+2) (b::r))=_
      rw [List.take_succ_cons,List.take_take,Nat.min_eq_left aa]
     rw [c,i]
     simp only [List.take_succ_cons,List.take_zero,List.drop_succ_cons,List.drop_zero,List.length_singleton]
     by_cases a:b=94
     · subst a; simp
     · simp [a]
theorem Ca:(fun x:UInt8=> !(fun _:UInt8=>false) x)=eE [46]:=by funext x; simp [eE]
theorem Fv {c:UInt8} (h:c≠46):(fun x:UInt8=>(fun _:UInt8=>false) x || decide (x=c))=eE [c]:=by
 funext x
 simp only [eE,List.length_singleton,if_true,Bool.false_or,List.getD_cons_zero]
 exact decide_eq_decide.2 ⟨fun h1=> .inr h1.symm,fun h1=>(h1.resolve_left h).symm⟩
theorem AX {ps:List (List UInt8)} (h:0 < ps.length):ib ps≠[]:=uN (f:=fun t=>cB (eE t)) (m:=4) (fun _=>rfl) ao h
theorem AW {h:Array Obj} {a:Option Addr} {ps:List (List UInt8)} {i:Nat} (c:aw h a (ib ps)) (hi:i < ps.length):∀ j,j < 4→Hb.aG h (bk a) (fo a+i*4 +j)=(cB (eE (ps.getD i [])))[j]? :=by
 have :=fX (f:=fun t=>cB (eE t)) (m:=4) (fun _=>rfl) c (List.getElem?_eq_getElem hi)
 rw [List.getD_eq_getElem?_getD,List.getElem?_eq_getElem hi]; exact this
theorem vC {b:UInt8} (h:(b.toNat:Int)=91):b=91:=UInt8.toNat_inj.1 (by have :(91:UInt8).toNat=91:=rfl; omega)
theorem ry {b:UInt8} (h:¬(b.toNat:Int)=91):b≠91:=by rintro rfl; exact h rfl
theorem vB {b:UInt8} (h:(b.toNat:Int)=46):b=46:=UInt8.toNat_inj.1 (by have :(46:UInt8).toNat=46:=rfl; omega)
theorem wm {b:UInt8} (h:¬(b.toNat:Int)=46):b≠46:=by rintro rfl; exact h rfl
theorem wO {w:World} {B:Nat} {v:Value} {l:List (List UInt8)} {x:List UInt8} (h:w.ownsRow B 227 4 v (l.length+1) (ib l++cB (eE x))):w.ownsRow B 227 4 v (l++ [x]).length (ib (l++ [x])):=by
 rw [List.length_append,AV]; simpa [ib] using h
theorem BX (l:List UInt8) (i j:Nat) (p s:Int) (B n c a:Nat) (w:World) (A:World.ownsRow w B 5 1 (.slice (some ⟨a,0,none⟩) n c) n (U8 l)) (C:i < j∧j≤n) (G:n≤1048576) (hi:p=(i:Nat)) (E:s=(j:Nat)):
 a3 Tryz.prog 155 (List.toArray [.slice (some ⟨a,0,none⟩) n c,.int .i64 p,.int .i64 s]) w (fun v w'=>v= .slice (some ⟨a,0,none⟩) (i+(n - j)) c∧World.ownsRow w' B 5 1 (.slice (some ⟨a,0,none⟩) (i+(n - j)) c) (i+(n - j)) (U8 (l.take i++l.drop j))∧Md (fun q=>q=a) w w'):=by
 subst hi E; exact BW l i j B n c a w A C G
theorem GW (f:UInt8→Bool) (w:World):
 a3 Tryz.prog 137 (List.toArray [.agg (cB (f)).toArray]) w (fun v w'=>v=str (iy f)∧Wk w w'):=by
 have bI:(bytesOf f).length≤256:=mG f 256
 have bJ:(bytesOf (fun x=> !f x)).length≤256:=mG _ 256
 refine enter Tryz.func137 U Tryz.ntmps137 U (ag (fun _ aW=>(e (gx U fun a1 ay al Y aF=>au (((aW _ _ (ag (fun _ aX=>p (cC gw U (U) (fun j aO=>by rw [Nat.zero_add]; exact (aF).aG j)) (e (cl tg (sX f _) U fun v6 aT bi=> ?_)))))))))))
 obtain ⟨ac,ak⟩:=bi
 obtain ⟨q,a,rfl⟩:=cE ac
 have C:=(aJ ac).2
 have V:Wk w aT:=Md.trans Y.md ak
 have aI:=ak.B aF
 refine au (((aX _ _ (sq (fun _ aY=>aC (ag (fun _ aZ=>(aj (.slice q (bytesOf f).length a) (p (bo jN U U) (p (bp U U) (au (((aZ _ _ (cd U (fun bl=> ?_) (fun bl=> ?_))))))))))))))))
 exact ag (fun _ E=>(au (((E _ _ (rt (br (tr (f1 U U (⟨by unfold iy; rw [if_pos (show (bytesOf f).length=256 by omega)]; rfl,V⟩))))))))))
 refine dA (fun ah aU=> ∃ (ai:Bool),(ai=decide ((bytesOf f).length=1∧(bytesOf f).getD 0 0≠46∧(bytesOf f).getD 0 0≠91))∧(aU=aT)∧(ah 1=a6 a1)∧(ah 3= .slice q (bytesOf f).length a)∧(ah 11= .bool ai)) ?_ ?_
 refine rg U (aj (.slice q (bytesOf f).length a) (p (bo jN U U) (p (bp U U) (p mv (gs (t:=15) U (fun bm=> ?_) (fun bm=> ?_))))))
 refine pg U U U (aB (.slice q (bytesOf f).length a) U) (pg U U U (aQ jw U U aa (aw.ok (C) (nC aa))) (pg U U U (ld mC U (nB (i:=0) C aa)) (pg U U U (dF U U) (p (bE U) (p mv (gs (t:=21) U (fun aN=> ?_) (fun aN=> ?_)))))))
 exact pg U U U (aB (.slice q (bytesOf f).length a) U) (pg U U U (aQ jw U U aa (aw.ok (C) (nC aa))) (pg U U U (ld mC U (nB (i:=0) C aa)) (pg U U U (dF U U) (p (bE U) (p aA (nl (tn (⟨_,((by first | exact decide_eq_decide.2 ⟨fun h=>⟨aa,by first | exact wm aa | exact fun h=>by omega,by first | exact ry aa | exact fun h=>by omega⟩,fun h=>by have h1:=h.2.2; exact fun h2=>h1 (vC h2)⟩ | rfl)),U,U,U,U⟩))))))))
 exact sk U U U U (sk U U U U (sk U U U U (sk U U U U (p (bj U) (p aA (nl (tn (⟨false,((decide_eq_false (fun h=>h.2.1 (vB (Decidable.of_not_not aN)))).symm),U,U,U,U⟩))))))))
 exact sk U U U U (sk U U U U (sk U U U U (sk U U U U (p (bj U) (p mv (sk U U U U (sk U U U U (sk U U U U (sk U U U U (p (bj U) (au (((⟨false,((decide_eq_false (fun h=>by omega)).symm),U,U,U,U⟩))))))))))))))
 rintro ah aU ⟨ai,al,ba,bv,bx,bw⟩
 refine fx 1 bv (fx 3 bx (fx 11 bw ?_))
 subst ba
 refine cb U (fun am=> ?_) (fun am=> ?_)
 have ae:(bytesOf f).length=1∧(bytesOf f).getD 0 0≠46∧(bytesOf f).getD 0 0≠91:=of_decide_eq_true (al ▸ am)
 exact ag (fun _ E=>(aj (.slice q (bytesOf f).length a) (p (k8 k5 U (C) (by simp)) (au (((E _ _ (rt (br (tr (f1 U U (⟨by unfold iy; rw [if_neg (show ¬(bytesOf f).length=256 by omega),if_pos ae]; rfl,V⟩))))))))))))
 have ae:¬((bytesOf f).length=1∧(bytesOf f).getD 0 0≠46∧(bytesOf f).getD 0 0≠91):=of_decide_eq_false (al ▸ am)
 refine ag (fun _ E=>(p (cC gw U (U) (fun j aO=>by rw [Nat.zero_add]; exact (aI).aG j)) (e (cl th (vg f 93 _ _ rfl) U fun bM bS bc=> ?_))))
 obtain ⟨rfl,s⟩:=bc
 refine au (((E _ _ (cb U (fun an=> ?_) (fun an=> ?_)))))
 refine ag (fun _ G=>(p (cC gw U (U) (fun j aO=>by rw [Nat.zero_add]; exact (s.B aI).aG j)) (e (cl p4 (rE f _) U fun bN bT bd=> ?_))))
 obtain ⟨rfl,a4⟩:=bd
 refine e (cl tg (sX (fun x=> !f x) _) U fun bO bU bf=> ?_)
 obtain ⟨aR,a5⟩:=bf
 obtain ⟨bD,bG,rfl⟩:=cE aR
 exact p (k8 k5 U ((aJ aR).2) (U)) (p (cc U U (by simp only [List.length_cons,List.length_nil]; omega)) (p (cc U U (by simp only [List.length_cons,List.length_nil,List.length_append]; omega)) (au (((G _ _ (rt (br (tr (f1 U U (⟨by unfold iy; rw [if_neg (show ¬(bytesOf f).length=256 by omega),if_neg ae,if_pos an]; rfl,Md.trans V (Md.trans s (Md.trans a4 a5))⟩)))))))))))
 refine aH (bn (tn (aY _ _ ?_)))
 refine dA (fun aV az=> ∃ (I:Option Addr) (A J:Nat),(((bytesOf f).filter (fun b=>decide (b≠94))++(if 94∈(bytesOf f) then [94] else [])).length=A)∧(World.ownsRow az ay.heap.size 5 1 (.slice I A J) A (U8 ((bytesOf f).filter (fun b=>decide (b≠94))++(if 94∈(bytesOf f) then [94] else []))))∧(Wk w az)∧(A≤300)∧(aV 3= .slice I A J)) ?_ ?_
 refine ag (fun _ G=>(aj (.slice q (bytesOf f).length a) (e (cl zz (DQ (bytesOf f) q _ a 94 _ (C.wk s) U aa) U fun bP bA bg=> ?_))))
 obtain ⟨rfl,O⟩:=bg
 have aK:Wk w bA:=Md.trans V (Md.trans s O)
 refine au (((G _ _ (ag (fun _ a0=>(p mv (p (ge U U) (nl (tn (a0 _ _ (cd U (fun bk=> ?_) (fun bk=> ?_))))))))))))
 have aq:=lZ (c:=94) (l:=bytesOf f) aa
 have ar:=aE (aE ac s) O
 obtain ⟨M,rfl⟩:=FK ar aa
 refine rg U (aj (.slice (some ⟨M,0,none⟩) (bytesOf f).length a) (p mv (p mv (p (ad U U (bu aa)) (e (cl zA (BX (bytesOf f) ((bytesOf f).idxOf 94) ((bytesOf f).idxOf 94 +1) _ _ ay.heap.size _ a M _ ar aa aa aa aa) U fun bQ bB bh=> ?_))))))
 obtain ⟨rfl,av,aM⟩:=bh
 have a7:Wk w bB:=Md.trans' aK aM (fun k hk h=>by have :=c4 ar (show (Value.slice (some ⟨M,0,none⟩) _ a).ownBlock=some M from rfl); have :=Y.md.size; omega)
 have bq:=r4 av
 refine e (eY gp U U fun bF bV bH Z a2=>e (ap gp (aE av Z.md) U (by have :=Y.md.size; have :=ak.size; have :=s.size; have :=O.size; have :=aM.size; have :=Z.md.size; omega) U (aw.dj a2) (U) (U) aa aa fun bR bC ax bb bL bK=> ?_))
 have a8:=Wk.own (Md.trans a7 Z.md) (aE av Z.md) bb Y.md.size
 rw [DO (zc f) aq.2] at bq ax
 obtain ⟨aD,c2,rfl⟩:=cE ax
 have aS:World.ownsRow bC ay.heap.size 5 1 (.slice aD (((bytesOf f).idxOf 94 +((bytesOf f).length - ((bytesOf f).idxOf 94 +1)))+1) c2) (((bytesOf f).idxOf 94 +((bytesOf f).length - ((bytesOf f).idxOf 94 +1)))+1) (U8 ((bytesOf f).filter (fun b=>decide (b≠94))++ [94])):=by rw [nQ]; exact ax
 exact au (((⟨aD,_,c2,((by have :=r4 aS; rw [if_pos (List.idxOf_lt_length_iff.1 aq.2)]; exact this)),((by rw [if_pos (List.idxOf_lt_length_iff.1 aq.2)]; exact aS)),a8,(aa),U⟩)))
 have ab:¬(94:UInt8)∈bytesOf f:=fun h=>by have h1:cX 94 (bytesOf f)=(bytesOf f).idxOf 94:=if_pos (List.idxOf_lt_length_iff.2 h); omega
 exact aH (tn (⟨q,(bytesOf f).length,a,((by rw [if_neg ab,vY ab,List.append_nil])),((by rw [if_neg ab,vY ab,List.append_nil]; exact aE (aE ac s) O)),aK,(aa),U⟩))
 rintro aV az ⟨I,A,J,aP,bt,a9,bs,bz⟩
 refine fx 3 bz ?_
 have aL:((bytesOf f).filter (fun b=>decide (b≠94))++(if 94∈(bytesOf f) then [94] else [])).length≤300:=by rw [aP]; exact bs
 exact ag (fun _ G=>(aj (.slice I A J) (p (k8 k5 U ((aJ bt).2) (aP)) (p (cc U U (Nat.le_trans (Nat.add_le_add_left aL _) ao)) (p (cc U U (by rw [List.length_append]; exact Nat.le_trans (Nat.add_le_add_right (Nat.add_le_add_left aL _) _) ao)) (p aA (nl (tn (G _ _ (rt (f1 U U (⟨by unfold iy; rw [if_neg (show ¬(bytesOf f).length=256 by omega),if_neg ae,if_neg (show ¬f 93=true from by rw [an]; exact Bool.noConfusion)]; rfl,a9⟩))))))))))))
theorem Bg (s:List UInt8) (w:World) (hs:s.length≤1048576):
 a3 Tryz.prog 120 (List.toArray [str s]) w (fun v w'=>(∃ a,v= .tuple #[.agg [a].toArray,ae ((dT s).2)]∧World.ownsRow w' w.heap.size 227 4 (a) ((dT s).1).length (ib ((dT s).1)))∧Wk w w'):=by
 refine enter Tryz.func120 U Tryz.ntmps120 U (ag (fun _ bV=>(e (fC se fun aF dI dr ac aq=>au (((bV _ _ (sq (fun _ b0=>sq (fun _ bq=>rg U (aj (str s) (p (fJ U U) (p mv (gs (t:=10) U (fun O=> ?_) (fun O=> ?_)))))))))))))))
 refine sk U U U U (sk U U U U (sk U U U U (p (bE U) (az ((bq _ _ (ct U (sq (fun _ ak=>rg U (p (bU (ps:= []) (L:= [.slice none 0 0]) nv U (U)) (e (fy k9 U (vs:= [.slice none 0 0]) U U U aq ao fun E q A=> ?_))))))))))))
 have C:Wk w E:=Md.trans' ac.md q (fun k hk h=>by omega)
 exact au (((ak _ _ (rt (tr (ez U (dm (cs:= [.slice none 0 0]) U ky U (fun j G=>(by cases j with | zero=>exact (a4 A).trans U | succ j=>omega))) dS (⟨⟨.slice none 0 0,by unfold dT; rw [if_pos (.inl O)]; rfl,by unfold dT; rw [if_pos (.inl O)]; exact World.ownsRow_nil _ _ _ _⟩,C⟩)))))))
 refine pg U U U (aB (str s) U) (pg U U U (cA u9 U U) (pg U U U (gt U U) (p (bj U) (az ((bq _ _ (cd U (fun cN=> ?_) (fun cN=> ?_))))))))
 refine ag (fun _ ak=>(p (bU (ps:= []) (L:= [.slice none 0 0]) nv U (U)) (e (fy k9 U (vs:= [.slice none 0 0]) U U U aq ao fun E q A=> ?_))))
 have C:Wk w E:=Md.trans' ac.md q (fun k hk h=>by omega)
 exact au (((ak _ _ (rt (tr (ez U (dm (cs:= [.slice none 0 0]) U ky U (fun j G=>(by cases j with | zero=>exact (a4 A).trans U | succ j=>omega))) dS (⟨⟨.slice none 0 0,by unfold dT; rw [if_pos (.inr aa)]; rfl,by unfold dT; rw [if_pos (.inr aa)]; exact World.ownsRow_nil _ _ _ _⟩,C⟩)))))))
 refine aH (tn (b0 _ _ (sq (fun _ ak=>ag (fun _ b1=>(aj (str s) (p (fJ U U) (nl (tn (b1 _ _ (cd U (fun ad=> ?_) (fun ad=> ?_))))))))))))
 refine ag (fun _ a1=>(p (bU (ps:= []) (L:= [.slice none 0 0]) nv U (U)) (e (fy k9 U (vs:= [.slice none 0 0]) U U U aq ao fun E q A=> ?_))))
 have C:Wk w E:=Md.trans' ac.md q (fun k hk h=>by omega)
 refine au (((a1 _ _ (rt (tr (ez U (dm (cs:= [.slice none 0 0]) U ky U (fun j G=>(by cases j with | zero=>exact (a4 A).trans U | succ j=>omega))) dS ?_))))))
 have bM:¬(s= []∨512 < s.length):=fun h=>h.elim O (fun h=>by omega)
 exact ⟨⟨.slice none 0 0,by unfold dT; rw [if_neg bM,if_pos ad]; rfl,by unfold dT; rw [if_neg bM,if_pos ad]; exact World.ownsRow_nil _ _ _ _⟩,C⟩
 refine aH (tn (ak _ _ (ag (fun _ a1=>(e (fC se fun am dl dt bI cg=> ?_))))))
 have cG:Wk w dl:=Md.trans ac.md bI.md
 have ds:=(Array.getElem?_eq_some_iff.1 aq).1
 have cf:=bI.md.aC aq
 have hs:=hs
 refine az ((a1 _ _ (sq (fun _ b2=>ag (fun _ b3=>(au (((b3 _ _ (aC (lp (fun bs aD Y=> ∃ (i:Nat) (c:List (List UInt8)) (ay:Value),(i≤s.length∧c.length≤i)∧(gF s i c)∧(Y.heap[am]? =some (.cells [ay].toArray 213 (0,0)))∧(Y.heap[aF]? =some (.cells [.slice none 0 0].toArray 213 (0,0)))∧(World.ownsRow Y w.heap.size 227 4 (ay) (c).length (ib (c)))∧(Wk w Y)∧(aD 0=str s)∧(aD 2=a6 aF)∧(aD 4=a6 am)∧(aD 5=ae i)∧(s.length - i=bs)) _ ⟨0,[],.slice none 0 0,((by simp)),(gF.start s),cg,cf,(World.ownsRow_nil _ _ _ _),cG,U,U,U,(by first | rfl | exact iv (if_neg ax)),U⟩ ?_)))))))))))
 rintro bs aD Y ⟨i,c,ay,hi,aS,aJ,ar,V,Z,cZ,c0,c1,c2,rfl⟩
 refine fx 0 cZ (fx 2 c0 (fx 4 c1 (fx 5 c2 (sq (fun _ b4=>ag (fun _ bW=>(aj (ae i) (aj (str s) (p (cA u9 U U) (p (lt U U) (az ((bW _ _ (cd U (fun cO=> ?_) (fun cO=> ?_)))))))))))))))
 refine aH (tn (b4 _ _ (aC (ag (fun _ aX=>(e (al lB fun an bT bJ aP cm=> ?_)))))))
 have aI:bl bT.heap an (cB (fun _=>false)):=by rw [qk]; exact cm
 have a9:Wk w bT:=Md.trans Z aP.md
 have a7:=aP.md.aC aJ
 have a8:=aP.md.aC ar
 have bi:=aE V aP.md
 have bJ:an=Y.heap.size:=bJ
 have dq:=(Array.getElem?_eq_some_iff.1 aJ).1
 have dn:=(Array.getElem?_eq_some_iff.1 ar).1
 have bg:=drop_cons (l:=s) (i:=i) 0 aa
 refine az ((aX _ _ (ag (fun _ aY=>(au (((aY _ _ ?_))))))))
 refine dA (fun ai ah=>(s.getD i 0≠91)∧(bl ah.heap an (cB (eE [s.getD i 0])))∧(ah.heap[am]? =some (.cells [ay].toArray 213 (0,0)))∧(ah.heap[aF]? =some (.cells [.slice none 0 0].toArray 213 (0,0)))∧(World.ownsRow ah w.heap.size 227 4 (ay) (c).length (ib (c)))∧(Wk w ah)∧(ai 0=str s)∧(ai 2=a6 aF)∧(ai 4=a6 am)∧(ai 5=ae i)∧(ai 6=a6 an)) ?_ ?_
 refine ag (fun _ J=>(aj (str s) (aj (ae i) (p (e7 u9 U U aa) (az ((J _ _ (aC (ag (fun _ bX=>(p (bp U U) (au (((bX _ _ (cd U (fun aQ=> ?_) (fun aQ=> ?_)))))))))))))))))
 refine sq (fun _ aZ=>ag (fun _ bY=>(aj (str s) (aj (ae i) (p (bm ((i+1:Nat):Int) U U (aU aa aa)) (e (cl zr (yZ s (i+1) _ hs aa) U fun dG dk cL=> ?_)))))))
 obtain ⟨⟨b7,rfl,cQ⟩,hE36⟩:=cL
 have cF:Wk w dk:=Md.trans a9 hE36
 have bL:=vC aQ
 refine p mv (p (xt U U) (p (xt U U) (p (xt U U) (e (b8 j8 U (vs:=cB b7) U U U (hE36.B aI) ao fun de aK bt=> ?_)))))
 have bF:Wk w de:=Md.trans' cF aK (fun k hk h=>by have :=Z.size; omega)
 have dB:=hE36.size
 have bu:=aK.aC (hE36.aC a7) (fun h=>by omega)
 have bB:=aK.aC (hE36.aC a8) (fun h=>by omega)
 have cS:=bK (aE bi hE36) aK (fun k hk h=>by have :=c4 V hk; omega)
 have dw:(s.drop (i+1)).length=s.length - (i+1):=List.length_drop
 refine p aA (au (((bY _ _ (ag (fun _ bZ=>(p mv (p (no U) (az ((bZ _ _ (cb U (fun M=> ?_) (fun M=> ?_)))))))))))))
 have av:gi (s.drop i)=none:=by
  rw [bg,bL]
  refine AA U (fun h=> ?_)
  have c9:¬cX 93 (s.drop (i+1)) < 0:=by rw [show cX 93 (s.drop (i+1))=(s.drop (i+1)).idxOf 93 from if_pos h.1]; omega
  have da:=(sT (s:=s) (k:=i+1) h.1).2 h.2
  rw [decide_eq_false c9,decide_eq_true da] at M; cases M
 have aR:=aS.bad aa av
 refine ag (fun _ a0=>(p (bU (ps:= []) (L:= [.slice none 0 0]) nv U (U)) (e (fy k9 U (vs:= [.slice none 0 0]) U U U bB ao fun E q A=> ?_))))
 have C:Wk w E:=Md.trans' bF q (fun k hk h=>by omega)
 refine au (((a0 _ _ (rt (tr (br (tr (br (tr (br (tr (ez U (dm (cs:= [.slice none 0 0]) U ky U (fun j G=>(by cases j with | zero=>exact (a4 A).trans U | succ j=>omega))) dS ?_))))))))))))
 have I:dT s=([],41):=by unfold dT; rw [if_neg (fun h=>h.elim O (fun h=>by omega)),if_neg ad,aR]
 exact ⟨⟨.slice none 0 0,by rw [I]; rfl,by rw [I]; exact World.ownsRow_nil _ _ _ _⟩,C⟩
 have ax:¬cX 93 (s.drop (i+1)) < 0:=fun h=>by rw [decide_eq_true h] at M; cases M
 have db:dZ (eN s (i+1)) [94]≠[]:=fun h=>by rw [h] at M; simp at M
 have aT:=lZ ax
 have bk:=(sT (s:=s) (k:=i+1) aT.2).1 db
 obtain rfl :=cQ ax
 rw [y7 aT.2 bk.1] at bt
 have av:gi (s.drop i)=some (91::(s.drop (i+1)).take ((s.drop (i+1)).idxOf 93 +1),(s.drop (i+1)).drop ((s.drop (i+1)).idxOf 93 +1)):=by rw [bg,bL]; exact AD rfl aT.2 bk.1 bk.2
 have bh:=aS.step (j:=i+1 +(s.drop (i+1)).idxOf 93 +1) av (by rw [List.drop_drop]; rfl)
 have dz:(s.drop (i+1)).idxOf 93 < s.length - (i+1):=by have :=aT.2; omega
 refine aH (tn (aZ _ _ (ag (fun _ a0=>(p (fa lh U) (p (ld mB U ((a4 bu).trans U)) (p (cC gw U (U) (fun j G=>by rw [Nat.zero_add]; exact (bt).aG j)) (e (j4 pd U U U fun b5 bR du aN ch=> ?_)))))))))
 have ci:bl bR.heap b5 (cB (eE (91::(s.drop (i+1)).take ((s.drop (i+1)).idxOf 93 +1)))):=ch
 have bG:Wk w bR:=Md.trans bF aN.md
 have aV:=aE cS aN.md
 have bv:=aN.md.aC bu
 have bC:=aN.md.aC bB
 refine e (ap pd (aV) U (by have :=bG.size; omega) U (aw.dj ci) (U) (tJ _) aa aa fun dc dJ bN bc dD dx=> ?_)
 have bO:=wO bN
 have bw:=bc.aC bv (fun h=>cT aV bv ao h)
 have cu:=bc.aC bC (fun h=>cT aV bC ao h)
 have cH:=Wk.own bG aV bc (Nat.le_refl _)
 refine p (fa lh U) (e (dp tN U U (dR bN) bw (by simp) fun df ba b9=> ?_))
 have cx:Wk w df:=Md.trans' cH ba (fun k hk h=>by have :=ac.md.size; omega)
 exact az ((a0 _ _ (ext (jo ao (te _ (be (tn (⟨_,aa,i+1 +(s.drop (i+1)).idxOf 93 +1,c++ [91::(s.drop (i+1)).take ((s.drop (i+1)).idxOf 93 +1)],dc,((by rw [List.length_append,List.length_singleton]; omega)),bh,b9,(ba.aC cu (fun h=>by omega)),(bK bO ba (fun k hk h=>cT bO bw ao (h ▸ hk))),cx,U,U,U,(by first | rfl | exact iv (if_neg ax)),U⟩))))))))
 refine ag (fun _ aZ=>(p (bp U U) (au (((aZ _ _ (cd U (fun bf=> ?_) (fun bf=> ?_))))))))
 refine rg U (p (cC gw U (U) (fun j G=>by rw [Nat.zero_add]; exact (aI).aG j)) (e (cl p4 (rE (fun _=>false) _) U fun dH dK cM=> ?_)))
 obtain ⟨rfl,ab⟩:=cM
 refine e (b8 j8 U (vs:=cB (fun x=> !(fun _:UInt8=>false) x)) U U U (ab.B aI) ao fun dg aL ca=> ?_)
 have dC:=ab.size
 have cy:Wk w dg:=Md.trans' (Md.trans a9 ab) aL (fun k hk h=>by have :=Z.size; omega)
 have co:=aL.aC (ab.aC a7) (fun h=>by omega)
 have cq:=aL.aC (ab.aC a8) (fun h=>by omega)
 have cU:=bK (aE bi ab) aL (fun k hk h=>by have :=c4 V hk; omega)
 exact nl (bn (tn (⟨(ry aQ),((by rw [vB bf,← Ca]; exact ca)),co,cq,cU,cy,U,U,U,U,U⟩)))
 refine rg U (aj (str s) (aj (ae i) (p (e7 u9 U U aa) (e (cl ta (wX an (s.getD i 0) _ _ aI) U fun dF di cK=> ?_)))))
 obtain ⟨rfl,ce,aM⟩:=cK
 have cD:Wk w di:=Md.trans' a9 aM (fun k hk h=>by have :=Z.size; omega)
 have cp:=aM.aC a7 (fun h=>by omega)
 have cr:=aM.aC a8 (fun h=>by omega)
 have cV:=bK bi aM (fun k hk h=>by have :=c4 V hk; omega)
 exact nl (bn (tn (⟨(ry aQ),((by rw [← Fv (wm bf)]; exact ce)),cp,cr,cV,cD,U,U,U,U,U⟩)))
 rintro ai ah ⟨cR,cn,bA,cw,cY,cJ,c3,c5,c6,c7,c8⟩
 refine fx 0 c3 (fx 2 c5 (fx 4 c6 (fx 5 c7 (fx 6 c8 (ag (fun _ J=>(p (fa lh U) (p (ld mB U ((a4 bA).trans U)) (p (cC gw U (U) (fun j G=>by rw [Nat.zero_add]; exact (cn).aG j)) (e (j4 pd U U U fun b6 bS dv aO cj=> ?_)))))))))))
 have ck:bl bS.heap b6 (cB (eE [s.getD i 0])):=cj
 have bH:Wk w bS:=Md.trans cJ aO.md
 have aW:=aE cY aO.md
 have bx:=aO.md.aC bA
 have bD:=aO.md.aC cw
 refine e (ap pd (aW) U (by have :=bH.size; omega) U (aw.dj ck) (U) (tJ _) aa aa fun dd dL bP bd dE dy=> ?_)
 have bQ:=wO bP
 have bz:=bd.aC bx (fun h=>cT aW bx ao h)
 have cv:=bd.aC bD (fun h=>cT aW bD ao h)
 have cI:=Wk.own bH aW bd (Nat.le_refl _)
 have av:gi (s.drop i)=some ([s.getD i 0],s.drop (i+1)):=by rw [bg]; exact AB cR
 have bh:=aS.step (j:=i+1) av rfl
 refine p (fa lh U) (e (dp tN U U (dR bP) bz (by simp) fun dh bb cc=> ?_))
 have cz:Wk w dh:=Md.trans' cI bb (fun k hk h=>by have :=ac.md.size; omega)
 exact az ((J _ _ (rg U (aj (ae i) (p (bm ((i+1:Nat):Int) U U (aU aa aa)) (p aA (nl (bn (tn (⟨_,aa,i+1,c++ [[s.getD i 0]],dd,((by rw [List.length_append,List.length_singleton]; omega)),bh,cc,(bb.aC cv (fun h=>by omega)),(bK bQ bb (fun k hk h=>cT bQ bz ao (h ▸ hk))),cz,U,U,U,(by first | rfl | exact iv (if_neg ax)),U⟩))))))))))
 refine ext (te _ (te _ (be (tn (b2 _ _ (sq (fun _ aX=>sq (fun _ aY=> ?_))))))))
 obtain ⟨a2,a5,rfl⟩:=cE V
 have aR:=aS.done aa
 refine rg U (p (fa lh U) (p (ld mB U ((a4 aJ).trans U)) (p (bo r3 U U) (p (gt U U) (az ((aY _ _ (cd U (fun cP=> ?_) (fun cP=> ?_)))))))))
 refine ag (fun _ J=>(p (bU (ps:= []) (L:= [.slice none 0 0]) nv U (U)) (e (fy k9 U (vs:= [.slice none 0 0]) U U U ar ao fun E q A=> ?_))))
 have C:Wk w E:=Md.trans' Z q (fun k hk h=>by omega)
 refine au (((J _ _ (rt (tr (ez U (dm (cs:= [.slice none 0 0]) U ky U (fun j G=>(by cases j with | zero=>exact (a4 A).trans U | succ j=>omega))) dS ?_))))))
 have I:dT s=([],42):=by unfold dT; rw [if_neg (fun h=>h.elim O (fun h=>by omega)),if_neg ad,aR]; exact if_pos aa
 exact ⟨⟨.slice none 0 0,by rw [I]; rfl,by rw [I]; exact World.ownsRow_nil _ _ _ _⟩,C⟩
 refine aH (tn (aX _ _ (ag (fun _ J=>(p (cC ky U (U) (show ∀ j,j < 1→Hb.aG Y.heap am (0 +j)= [Value.slice a2 c.length a5][j]? from fun j G=>(by cases j with | zero=>exact (a4 aJ).trans U | succ j=>omega))) (e (fy k9 U (vs:= [.slice a2 c.length a5]) U U U ar ao fun E q A=> ?_)))))))
 have C:Wk w E:=Md.trans' Z q (fun k hk h=>by omega)
 have cW:=bK V q (fun k hk h=>cT V ar ao (h ▸ hk))
 refine au (((J _ _ (rt (ez U (dm (cs:= [.slice a2 c.length a5]) U ky U (fun j G=>(by cases j with | zero=>exact (a4 A).trans U | succ j=>omega))) dS ?_)))))
 have I:dT s=(c,0):=by unfold dT; rw [if_neg (fun h=>h.elim O (fun h=>by omega)),if_neg ad,aR]; exact if_neg aa
 exact ⟨⟨_,by rw [I]; rfl,by rw [I]; exact cW⟩,C⟩
theorem F8 (ps:List (List UInt8)) (a:Option Addr) (c:Nat) (w:World) (O:aw w.heap a (ib ps)) (hn:ps.length≤4096):
 a3 Tryz.prog 121 (List.toArray [.agg [.slice a ps.length c].toArray]) w (fun v w'=>v=str (l9 ps)∧Wk w w'):=by
 refine enter Tryz.func121 U Tryz.ntmps121 U (ag (fun _ Y=>(e (gx U fun aK V aM A M=>au (((Y _ _ (sq (fun _ ab=>sq (fun _ ac=>rg U (p (fa lh U) (p (ld mB U (M.aG 0)) (p (bo r3 U U) (p (bp U U) (az ((ac _ _ (cd U (fun G=> ?_) (fun G=> ?_)))))))))))))))))))
 exact ag (fun _ C=>(au (((C _ _ (rt (tr (f1 U U (⟨by unfold l9; rw [if_pos (List.eq_nil_of_length_eq_zero aa)]; rfl,A.md⟩)))))))))
 refine aH (tn (ab _ _ (ag (fun _ C=>(au (((C _ _ (sq (fun _ ah=>ag (fun _ ai=>(p (fa lh U) (p (ld mB U (M.aG 0)) (p (bo r3 U U) (p mv (az ((ai _ _ (aC (lp (fun J s I=> ∃ (i:Nat),(i≤ps.length)∧(Wk V I)∧(((ps.take i).flatMap fun t=>iy (eE t)).length≤i*300)∧(s 3=str ((ps.take i).flatMap fun t=>iy (eE t)))∧(s 11= .slice a ps.length c)∧(s 12=ae (ps.length))∧(s 13=ae i)∧(ps.length - i=J)) _ ⟨0,aa,(Md.refl _ _),((by simp)),(by first | rfl | (rw [eT ps i [] aa,List.flatMap_append,List.flatMap_singleton]; rfl)),U,U,U,U⟩ ?_))))))))))))))))))))
 rintro J s I ⟨i,hi,q,hlen,aI,aD,aE,aF,rfl⟩
 refine fx 3 aI (fx 11 aD (fx 12 aE (fx 13 aF (ag (fun _ ak=>(p (lt U U) (az ((ak _ _ (sq (fun _ am=>cd U (fun aB=> ?_) (fun aB=> ?_))))))))))))
 refine aH (tn (am _ _ (sq (fun _ E=>aC (ag (fun _ Z=>(p (aQ Cy U U aa (aw.ok (O.wk (Md.trans A.md q)) (AX aa))) (p (cC gw U (U) (show ∀ j,j < 4→Hb.aG I.heap (bk a) (fo a+i*4 +j)=(cB (eE (ps.getD i [])))[j]? from AW (O.wk (Md.trans A.md q)) aa)) (e (al lB fun aL aT aN ax an=>e (b8 j8 U (vs:=cB (eE (ps.getD i []))) U U U an ao fun aJ av ap=> ?_)))))))))))
 have ar:Wk V aJ:=Md.trans' (Md.trans q ax.md) av (fun k hk h=>by have :=q.size; omega)
 refine az ((Z _ _ (rg U (aj (str ((ps.take i).flatMap fun t=>iy (eE t))) (p (cC gw U (U) (fun j aO=>by rw [Nat.zero_add]; exact (ap).aG j)) (e (cl zt (GW (eE (ps.getD i [])) _) U fun aR aS ay=> ?_)))))))
 obtain ⟨rfl,aq⟩:=ay
 have aP:=GV (eE (ps.getD i []))
 exact p (cc U U aa) (p aA (nl (bn (tn (E _ _ (rg U (p (ad U U (bu aa)) (p mv (az ((⟨_,aa,i+1,aa,(Md.trans ar aq),((by rw [eT ps i [] aa,List.flatMap_append,List.flatMap_singleton,List.length_append]; omega)),(by first | rfl | (rw [eT ps i [] aa,List.flatMap_append,List.flatMap_singleton]; rfl)),U,U,U,U⟩)))))))))))
 exact ext (te _ (te _ (be (tn (ah _ _ (ag (fun _ E=>(aj (str ((ps.take i).flatMap fun t=>iy (eE t))) (p (bG (str ((ps.take i).flatMap fun t=>iy (eE t))) U) (az ((E _ _ (rt (f1 U U (⟨by unfold l9; rw [if_neg (fun h=>by rw [h] at G; exact G U),show ps.take i=ps from List.take_of_length_le aa]; rfl,Md.trans A.md q⟩)))))))))))))))
end Go.Hb.mz
end
section
set_option maxRecDepth 20000
set_option maxHeartbeats 1000000
namespace Go.Hb.gh
open Go.Hb.c6
open Go.Proofs
open Go.Hb.ff Go.Hb.fP Go.Hb.jV Go.Hb.jZ Go.Hb.iG Go.Hb.kS Go.Hb.gu Go.Hb.lD Go.Hb.mz Go.Hb.gP Go.Hb.gG
theorem uM {kind:Nat} {al:List (List Nat)} {s:Tx} (h:al= []):eh kind al s=iO kind s:=if_pos h
theorem CU {kind:Nat} {al:List (List Nat)} {s:Tx} {e:Nat} (h:al≠[]) (h1:cR s al.length= .error e):eh kind al s= .error 13:=by unfold eh; rw [if_neg h,h1]
theorem CX {kind:Nat} {al:List (List Nat)} {s:Tx} (h:al≠[]) (h1:cR s al.length= .ok 0):eh kind al s= .error 13:=by unfold eh; rw [if_neg h,h1]; rfl
theorem CV {kind n:Nat} {al:List (List Nat)} {s:Tx} (h:al≠[]) (h1:cR s al.length= .ok n) (a:n≠0):eh kind al s= .ok (al.getD (n - 1) []):=by unfold eh; rw [if_neg h,h1]; exact if_neg a
theorem u4 {kind:Nat} {s:Tx} (h:(dH kind s).2=0):iO kind s= .ok (dH kind s).1:=if_neg fun h2=>h2 h
theorem uY {kind:Nat} {s:Tx} (h:(dH kind s).2≠0):iO kind s= .error (dH kind s).2:=if_pos h
theorem xl {kind ln:Nat} {al:List (List Nat)} {c:db} {r:List Tx} (h:r.length≠4) (h1:r.length≠5):iw kind al c ln r= .error 111:=by unfold iw; rw [if_pos ⟨h,h1⟩]
theorem kK {kind ln:Nat} {al:List (List Nat)} {c:db} {r:List Tx} (h:r.length=4∨r.length=5):iw kind al c ln r=(match ek true (r.getD 2 []) with
 | .error e=> .error e
 | .ok st=>match jm (a8 (r.getD 3 [])) with
   | .error e=> .error e
   | .ok ad=>match jF kind al c.kind (a8 (r.getD 3 [])) with
     | .error e=> .error e
     | .ok nx=>match js r with
       | .error e=> .error e
       | .ok cd=> .ok ⟨c.kind,c.flag,c.ic,st,ad,cd,nx,ln⟩):=by unfold iw; rw [if_neg aa]; rfl
theorem yt {r:iH} (h:r.2.2.2≠0):jm r= .error r.2.2.2:=if_pos h
theorem yw {r:iH} (h:r.2.2.2=0) (h1:r.1= [48]):jm r= .ok []:=by unfold jm; rw [if_neg (fun h2=>h2 h),if_pos h1]
theorem yu {r:iH} (h:r.2.2.2=0) (h1:r.1≠[48]) (h2:fg r.1≠0):jm r= .error (fg r.1):=by unfold jm; rw [if_neg (fun h2=>h2 h),if_neg h1,if_pos h2]
theorem yv {r:iH} (h:r.2.2.2=0) (h1:r.1≠[48]) (h2:fg r.1=0):jm r= .ok r.1:=by unfold jm; rw [if_neg (fun h2=>h2 h),if_neg h1,if_neg (fun h3=>h3 h2)]
theorem E9 {kind a:Nat} {al:List (List Nat)} {r:iH} (h:r.2.2.1=false):jF kind al a r= .ok []:=by unfold jF; rw [if_neg (by rw [h]; exact Bool.noConfusion)]
theorem E8 {kind a:Nat} {al:List (List Nat)} {r:iH} (h:r.2.2.1=true) (h1:a=1):jF kind al a r= .error 118:=by unfold jF; rw [if_pos h,if_pos h1]
theorem vW {kind a:Nat} {al:List (List Nat)} {r:iH} (h:r.2.2.1=true) (h1:a≠1):jF kind al a r=eh kind al r.2.1:=by unfold jF; rw [if_pos h,if_neg h1]
theorem A9 {r:List Tx} (h:r.length≠5):js r= .ok [46]:=if_neg h
theorem A6 {r:List Tx} (h:r.length=5) (h1:eF (r.getD 4 [])=false):js r= .error 21:=by unfold js; rw [if_pos h,if_pos h1]
theorem A7 {r:List Tx} (h:r.length=5) (h1:eF (r.getD 4 [])=true) (h2:(dT (r.getD 4 [])).2≠0):js r= .error (dT (r.getD 4 [])).2:=by unfold js; rw [if_pos h,if_neg (by rw [h1]; exact Bool.noConfusion),if_pos h2]
theorem A8 {r:List Tx} (h:r.length=5) (h1:eF (r.getD 4 [])=true) (h2:(dT (r.getD 4 [])).2=0):js r= .ok (l9 (dT (r.getD 4 [])).1):=by unfold js; rw [if_pos h,if_neg (by rw [h1]; exact Bool.noConfusion),if_neg (fun h3=>h3 h2)]
theorem Bf (s:Tx):(dT s).1.length≤16:=by
 unfold dT
 split
 · simp
 · split
   · simp
   · split
     · simp
     · split
       · simp
       · rename_i h; exact Nat.le_of_not_lt h
theorem uE (B fb mc:Nat) (F:aM) (V:dq) (s:Tx) (w:World) (q:bQ w B fb mc F V) (hk:F.kind=1∨F.kind=2∨F.kind=3) (ay:∀ l∈F.aliases,l.length≤64∧l.Pairwise (· < ·)) (aL:F.aliases.length≤70000) (hs:s.length≤1048576):
 a3 Tryz.prog 75 (List.toArray [a6 fb,str s]) w (fun v w'=>((∃ a l,v= .tuple #[a,.int .i64 0]∧eh F.kind F.aliases s= .ok l∧World.ownsRow w' w.heap.size 71 1 a l.length (l.map aI))∨(∃ a e,v= .tuple #[a,ae e]∧e≠0∧eh F.kind F.aliases s= .error e))∧Wk w w'):=by
 obtain ⟨ap,fU,ac⟩:=cE q.e8
 have J:=q.e8
 rw [ac] at J
 have G:Hb.aG w.heap fb 10=some (.slice ap F.aliases.length fU):=by rw [← ac]; exact (a4 q.cells).trans rfl
 refine enter Tryz.func75 U Tryz.ntmps75 U (ag (fun _ ad=>(p aA (au (((ad _ _ (sq (fun _ ah=>sq (fun _ ai=>rg U (aj (a6 fb) (p (jc ny U U) (az ((ai _ _ (cf (U) (aH (tn (ah _ _ (sq (fun _ ak=>ag (fun _ am=>(aj (a6 fb) (p (nc U) (p (fa dQ U) (p (fa kb U) (p (ld kX U (G)) (p (bo pE U U) (p (bp U U) (az ((am _ _ (cd U (fun I=> ?_) (fun I=> ?_))))))))))))))))))))))))))))))))))
 have i:F.aliases= []:=List.eq_nil_of_length_eq_zero aa
 refine ag (fun _ C=>(aj (a6 fb) (p (nc U) (p (fa dQ U) (p (fa lV U) (p (ld eu U ((a4 q.cells).trans U)) (aj (str s) (e (cl sZ (u7 F.kind s _ hk hs) U fun aO aT ar=> ?_)))))))))
 obtain ⟨⟨Y,rfl,aF⟩,hE23⟩:=ar
 refine p (xt U U) (p (xt U U) (p aA (au (((C _ _ (rt (tr (f2 U U U ?_)))))))))
 refine ⟨?_,hE23⟩
 by_cases h:(dH F.kind s).2=0
 exact .inl ⟨Y,_,by rw [h]; rfl,by rw [uM i]; exact u4 h,aF⟩
 exact .inr ⟨Y,_,U,h,by rw [uM i]; exact uY h⟩
 have i:F.aliases≠[]:=fun h=>by rw [h] at I; exact I rfl
 refine aH (tn (ak _ _ (ag (fun _ C=>(aj (str s) (aj (a6 fb) (p (nc U) (p (fa dQ U) (p (fa kb U) (p (ld kX U (G)) (p (bo pE U U) (e (cl n9 (oW s (F.aliases.length:Nat) _ hs aa) U fun aP aV av=> ?_)))))))))))))
 obtain ⟨rfl,c⟩:=av
 refine p mv (p (xt U U) (p (xt U U) (p aA (au (((C _ _ (sq (fun _ an=>ag (fun _ O=>(p mv (p (dF U U) (p mv (gs (t:=39) U (fun aD=> ?_) (fun aD=> ?_)))))))))))))))
 exact sk U U U U (sk U U U U (p (bE U) (az ((O _ _ (ct U (ag (fun _ j=>p aA (au (((j _ _ (rt (tr (f2 U U U (⟨.inr ⟨.slice none 0 0,13,U,ao,CU i (oU aa).1⟩,c⟩))))))))))))))))
 refine pg U U U mv (pg U U U (bp U U) (p (bj U) (az ((O _ _ (cd U (fun aC=> ?_) (fun aC=> ?_)))))))
 refine ag (fun _ j=>(p aA (au (((j _ _ (rt (tr (f2 U U U ?_)))))))))
 have A:=oV (by omega :(dI s (F.aliases.length:Nat)).2=0)
 rw [show (dI s (F.aliases.length:Nat)).1=0 from by omega] at A
 exact ⟨.inr ⟨.slice none 0 0,13,U,ao,CX i A⟩,c⟩
 refine aH (tn (an _ _ (sq (fun _ j=> ?_))))
 have A:=oV (by omega :(dI s (F.aliases.length:Nat)).2=0)
 have aN:=oT s (F.aliases.length:Nat) aa
 have Z:(dI s (F.aliases.length:Nat)).1 - 1 < F.aliases.length:=aa
 obtain ⟨aR,M,E⟩:=bX.get (q.al.wk c) Z
 obtain ⟨aK,z6,rfl⟩:=E.slice
 have aB:=ay _ (dK (d:= []) Z)
 refine rg U (aj (a6 fb) (p (nc U) (p (fa dQ U) (p (fa kb U) (p (ld kX U (Wk.aG c G)) (p mv (p (bZ (((dI s (F.aliases.length:Nat)).1 - 1:Nat):Int) U U (aU aa aa)) (p (aQ qy U U aa (aw.ok ((aJ (aE J c)).2) (fun h=>by rw [h] at M; cases M))) (p (ld iJ U (aw.h8 (aJ (aE J c)).2 M)) (e (cl s5 (wv (F.aliases.getD ((dI s (F.aliases.length:Nat)).1 - 1) []) _ _ _ E.bN.2 (fun h=>Tg.oS E (by simp) h) aa) U fun aS aW ax=> ?_)))))))))))
 obtain ⟨ab,aq⟩:=ax
 rw [Fs aB.2] at ab
 exact p aA (au (((j _ _ (rt (f2 U U U (⟨.inl ⟨_,_,U,CV i A aa,ga ab c.size⟩,c.trans aq⟩)))))))
theorem GJ (B:Nat) (H:bw) (F:aM) (V:dq) (R:dV) (rows:List Rw) (ln:Nat) (seen:List Tx) (c:db) (r:List Tx) (b9:Nat) (A:Option Addr) (C:Nat) (w:World) (G:bQ w B H.fb H.mc F V) (E:bC w B H F R rows ln seen) (aY:gE F rows seen) (d2:c.kind=1∨c.kind=2) (ar:Tg w b9 9 r.length (.slice A r.length C) (r.map str)) (bg:r.length≤70000∧∀ x∈r,x.length≤70000):
 c8 Tryz.prog 102 (List.toArray [.pointer (some ⟨H.rb,0,none⟩),.agg (j7 c).toArray,.slice A r.length C]) w (fun v w'=> ∃ q,iw F.kind F.aliases c ln r= .ok q∧q.line=ln∧(∃ vn,v= .agg (gO (q,vn)).toArray∧Tg w' B 71 q.next.length vn (q.next.map aI))∧Wk w w') (fun aj w'=> ∃ e,iw F.kind F.aliases c ln r= .error e∧aj=eO 25 ln (e:Nat)∧Wk w w'):=by
 have dW:=ar.bN
 have d7:=(Array.getElem?_eq_some_iff.1 E.cells).1
 have d3:=E.lo.1
 refine fI Tryz.func102 U Tryz.ntmps102 U (sq (fun dI cD=>rg U (e (gx U fun aX eD dZ bx cp=>e (al sd fun ac aV d0 aO cq=> ?_)))))
 have aE:Wk w aV:=bx.md.trans aO.md
 have bY:=Wk.aG aE E.cQ
 have ee:=bx.size
 have eg:=aO.size
 refine nl (tn (cD _ _ ?_))
 refine dA (fun az b5=>(r.length=4∨r.length=5)∧(b5=aV)∧(az 0= .pointer (some ⟨H.rb,0,none⟩))∧(az 2= .slice A r.length C)∧(az 4= .pointer (some ⟨aX,0,none⟩))∧(az 6= .pointer (some ⟨ac,0,none⟩))) ?_ ?_
 refine rg U (p (aB (.pointer (some ⟨H.rb,0,none⟩)) U) (p (aB (.slice A r.length C) U) (p (bo ea U U) (p (bp U U) (p mv (gs (t:=20) U (fun c5=> ?_) (fun c5=> ?_)))))))
 refine sk U U U U (sk U U U U (sk U U U U (p (bE U) (eP U (bO ed (ej H.rb ln _ 111 aV bY ao) U fun dx dB bb=> ?_) (fun c w' s Y G=>by first | exact absurd s.2.1 ao | exact ⟨111,xl aa (by have :=of_decide_eq_false s.2.1; omega),s.1,by rw [s.2.2]; exact aE⟩)))))
 obtain ⟨rfl,bZ,rfl⟩:=bb
 exact nl (tn (⟨(.inl aa),U,U,U,U,U⟩))
 refine pg U U U (aB (.slice A r.length C) U) (pg U U U (bo ea U U) (pg U U U (bp U U) (p (bj U) (eP U (bO ed (ej H.rb ln _ 111 aV bY ao) U fun dx dB bb=> ?_) (fun c w' s Y G=>by first | exact absurd s.2.1 ao | exact ⟨111,xl aa (by have :=of_decide_eq_false s.2.1; omega),s.1,by rw [s.2.2]; exact aE⟩)))))
 obtain ⟨rfl,bZ,rfl⟩:=bb
 exact nl (tn (⟨(.inr (by have :=of_decide_eq_true bZ; omega)),U,U,U,U,U⟩))
 rintro az b5 ⟨hlen,cy,c7,c9,da,dc⟩
 refine fx 0 c7 (fx 2 c9 (fx 4 da (fx 6 dc ?_)))
 subst cy
 have aT:=aO.md.B cp
 refine sq (fun dJ cF=>rg U (p (fa oJ U) (p (ld eu U ((aT.aG 1).trans U)) (p (fa qJ U) (p (ld bq U ((aT.aG 0).trans U)) (p (fa uS U) (p (ld sA U ((aT.aG 2).trans U)) (p (bU (ps:= [(0,.int .i64 (c.kind:Nat)),(1,aI c.flag),(2,.bool c.ic),(5,str [46])]) (L:= [.int .i64 (c.kind:Nat),aI c.flag,.bool c.ic,.string ⟨⟨[]⟩⟩,.string ⟨⟨[]⟩⟩,str [46],.slice none 0 0]) Hg U (U)) (e (al sd fun I eF d1 aP cr=> ?_))))))))))
 have ek:=aP.size
 refine e (b8 qm U U U U (cr) (by simp) fun b6 aK cn=> ?_)
 have aF:Wk w b6:=(aE.trans aP.md).trans' aK (fun k hk h=>by omega)
 have cW:=aK.B (aP.md.B aT) (fun h=>by omega)
 have cY:=aK.B (aP.md.B cq) (fun h=>by omega)
 have el:=aK.size
 have bA:=(ar.wk aF).bN
 have d4:(r.getD 2 []).length≤70000:=bg.2 _ (dK aa)
 have d5:(r.getD 3 []).length≤70000:=bg.2 _ (dK aa)
 refine nl (tn (cF _ _ (sq (fun dL cG=>rg U (p (aB (.pointer (some ⟨H.rb,0,none⟩)) U) (p (aB (.slice A r.length C) U) (p (aQ bT U U aa (aw.ok (bA.2) (bL aa))) (p (ld bF U (bM.get (i:=2) bA.2 aa)) (eP U (bO sY (wT H.rb ln (r.getD 2 []) b6 (Wk.aG aF E.cQ) aa) U fun er eC cK=> ?_) (fun c w' s Y G=>by obtain ⟨e,he,h,h2⟩:=s; exact ⟨e,by rw [kK hlen,he],h,aF.trans h2⟩))))))))))
 obtain ⟨stx,bS,rfl,am⟩:=cK
 refine p (fa C2 U) (e (st j9 U U (U) (am.B cn) (by simp) fun b7 aL co=> ?_))
 have br:bl b7.heap I [.int .i64 (c.kind:Nat),aI c.flag,.bool c.ic,str stx,str [],str [46],.slice none 0 0]:=co
 have bs:Wk w b7:=(aF.trans am).trans' aL (fun k hk h=>by omega)
 have ec:=am.size
 have bJ:=aL.B (am.B cW) (fun h=>by omega)
 have bP:=aL.B (am.B cY) (fun h=>by omega)
 have bz:=(ar.wk bs).bN
 have eb:=aL.size
 refine nl (tn (cG _ _ (sq (fun dM cH=>rg U (p (aB (.slice A r.length C) U) (p (aQ bT U U aa (aw.ok (bz.2) (bL aa))) (p (ld bF U (bM.get (i:=3) bz.2 aa)) (e (cl qa (r9 (r.getD 3 []) _ aa) U fun es dC cL=> ?_)))))))))
 obtain ⟨rfl,J⟩:=cL
 have ae:=bs.trans J
 have d8:=pK (r.getD 3 [])
 refine p mv (p (xt U U) (p (xt U U) (p (xt U U) (p (xt U U) (p aA (p aA (p aA (p aA (nl (tn (cH _ _ (sq (fun dN cI=>rg U (p (aB (.pointer (some ⟨H.rb,0,none⟩)) U) (p mv (eP U (bO jr (jD H.rb ln ((a8 (r.getD 3 [])).2.2.2:Nat) dC (Wk.aG ae E.cQ)) U fun et dD cM=> ?_) (fun c w' s Y G=>⟨_,by rw [kK hlen,bS,yt (show (a8 (r.getD 3 [])).2.2.2≠0 by have :=s.2.1; omega)],s.1,by rw [s.2.2]; exact ae⟩)))))))))))))))))
 obtain ⟨rfl,aU,rfl⟩:=cM
 have aU:(a8 (r.getD 3 [])).2.2.2=0:=aa
 refine nl (tn (cI _ _ ?_))
 refine dA (fun Z ai=> ∃ (ab:Tx),(jm (a8 (r.getD 3 []))= .ok ab)∧(bl ai.heap I [.int .i64 (c.kind:Nat),aI c.flag,.bool c.ic,str stx,str ab,str [46],.slice none 0 0])∧(bl ai.heap aX (j7 c))∧(∃ L,L.length=7∧bl ai.heap ac L)∧(Wk w ai)∧(Z 0= .pointer (some ⟨H.rb,0,none⟩))∧(Z 2= .slice A r.length C)∧(Z 4= .pointer (some ⟨aX,0,none⟩))∧(Z 6= .pointer (some ⟨ac,0,none⟩))∧(Z 7= .pointer (some ⟨I,0,none⟩))∧(Z 9=str (a8 (r.getD 3 [])).2.1)∧(Z 10= .bool (a8 (r.getD 3 [])).2.2.1)) ?_ ?_
 refine sq (fun aW ad=>rg U (p mv (p (l5 U U) (nl (tn (ad _ _ (cd U (fun aS=> ?_) (fun aS=> ?_))))))))
 refine rg U (p (aB (.pointer (some ⟨H.rb,0,none⟩)) U) (p mv (eP U (bO s6 (xa H.rb ln (a8 (r.getD 3 [])).1 dD (Wk.aG ae E.cQ) aa) U fun ev eE cN=> ?_) (fun c w' s Y G=>⟨_,by rw [kK hlen,bS,yu aU aS s.2.1],s.1,ae.trans s.2.2⟩))))
 obtain ⟨rfl,du,an⟩:=cN
 refine p (fa C3 U) (e (st j9 U U (U) (Wk.B (J.trans an) br) (by simp) fun dH ba ct=> ?_))
 have cz:Wk w dH:=(ae.trans an).trans' ba (fun k hk h=>by omega)
 have ef:=(J.trans an).size
 exact nl (tn (⟨(a8 (r.getD 3 [])).1,(yv aU aS du),ct,(ba.B (Wk.B (J.trans an) bJ) (fun h=>by omega)),(⟨_,U,ba.B (Wk.B (J.trans an) bP) (fun h=>by omega)⟩),cz,U,U,U,U,U,U,U⟩))
 exact aH (tn (⟨[],(yw aU (Classical.not_not.1 aS)),(J.B br),(J.B bJ),(⟨_,U,J.B bP⟩),ae,U,U,U,U,U,U,U⟩))
 rintro Z ai ⟨ab,au,aD,cX,bR,M,dd,df,dg,dh,di,dj,de⟩
 refine fx 0 dd (fx 2 df (fx 4 dg (fx 6 dh (fx 7 di (fx 9 dj (fx 10 de ?_))))))
 skip
 refine dA (fun aC O=> ∃ (nx:List Nat) (vn:Value),(jF F.kind F.aliases c.kind (a8 (r.getD 3 []))= .ok nx)∧(bl O.heap I [.int .i64 (c.kind:Nat),aI c.flag,.bool c.ic,str stx,str ab,str [46],vn])∧(Tg O (I+1) 71 nx.length vn (nx.map aI))∧(∃ L,L.length=7∧bl O.heap ac L)∧(Wk w O)∧(aC 0= .pointer (some ⟨H.rb,0,none⟩))∧(aC 2= .slice A r.length C)∧(aC 6= .pointer (some ⟨ac,0,none⟩))∧(aC 7= .pointer (some ⟨I,0,none⟩))) ?_ ?_
 refine sq (fun aW ad=>rg U (p (aB (.bool (a8 (r.getD 3 [])).2.2.1) U) (nl (tn (ad _ _ (cb U (fun av=> ?_) (fun av=> ?_)))))))
 skip
 refine sq (fun ca a2=>rg U (p (aB (.pointer (some ⟨H.rb,0,none⟩)) U) (p (fa oJ U) (p (ld eu U ((cX.aG 1).trans U)) (p (bp U U) (eP U (bO ed (ej H.rb ln _ 118 ai (Wk.aG M E.cQ) ao) U fun ew b3 cO=> ?_) (fun aj w' s Y G=>by have dU:=of_decide_eq_false s.2.1; exact ⟨118,by rw [kK hlen,bS]; simp only; rw [au]; simp only; rw [E8 av aa],s.1,by rw [s.2.2]; exact M⟩)))))))
 obtain ⟨rfl,b0,rfl⟩:=cO
 have b0:=of_decide_eq_true b0
 refine nl (tn (a2 _ _ (sq (fun cc a3=>rg U (p (aB (.pointer (some ⟨H.rb,0,none⟩)) U) (p (nc U) (p (fa dX U) (p (ld dO U (Wk.aG M ((a4 E.cells).trans U))) (p (aB (str (a8 (r.getD 3 [])).2.1) U) (e (cl tz (uE B H.fb H.mc F V (a8 (r.getD 3 [])).2.1 _ (G.wk M) aY.kd aY.al (by have :=aY.len; omega) (by have :=pK (r.getD 3 []); omega)) U fun dy b4 cP=> ?_)))))))))))
 obtain ⟨c2,ag⟩:=cP
 obtain ⟨bm,bn,rfl,bW⟩:∃ a,∃ e:Nat,dy= .tuple #[a,.int .i64 (e:Nat)]∧((e=0∧∃ l,eh F.kind F.aliases (a8 (r.getD 3 [])).2.1= .ok l∧World.ownsRow b4 b3.heap.size 71 1 a l.length (l.map aI))∨(e≠0∧eh F.kind F.aliases (a8 (r.getD 3 [])).2.1= .error e)):=by
  rcases c2 with ⟨a,l,h1,h2,h3⟩ | ⟨a,e,h1,h2,h3⟩
  exact ⟨a,0,h1,.inl ⟨U,l,h2,h3⟩⟩
  exact ⟨a,e,h1,.inr ⟨h2,h3⟩⟩
 refine p mv (p (xt U U) (p (xt U U) (p aA (p aA (nl (tn (a3 _ _ (sq (fun ce a5=>rg U (p (aB (.pointer (some ⟨H.rb,0,none⟩)) U) (p mv ?_)))))))))))
 refine eP U (bO jr (jD H.rb ln (bn:Nat) b4 (Wk.aG (M.trans ag) E.cQ)) U fun ex dE cR=> ?_) (fun aj w' s Y G=>by
  rcases bW with ⟨h,_⟩ | ⟨h,h1⟩
  exact absurd aa s.2.1
  exact ⟨bn,by rw [kK hlen,bS]; simp only; rw [au]; simp only; rw [vW av aa,h1],s.1,by rw [s.2.2]; exact M.trans ag⟩)
 obtain ⟨rfl,d9,rfl⟩:=cR
 obtain ⟨nx,ax,bc⟩:∃ l,eh F.kind F.aliases (a8 (r.getD 3 [])).2.1= .ok l∧World.ownsRow dE b3.heap.size 71 1 bm l.length (l.map aI):=by
  rcases bW with ⟨_,h⟩ | ⟨h,_⟩
  exact h
  exact absurd aa h
 refine nl (tn (a5 _ _ (rg U (p mv (p (fa oI U) (e (st om U U (dR bc) (ag.B aD) (by simp) fun dF a7 ch=> ?_)))))))
 have cv:Wk w dF:=(M.trans ag).trans' a7 (fun k hk h=>by omega)
 have ei:=ag.size
 exact nl (tn (⟨nx,bm,((by rw [vW av aa]; exact ax)),ch,(((Tg.gl (bK bc a7 (fun k hk h=>by have :=c4 bc hk; have :=aD.lt; omega))).mono aD.lt)),((by obtain ⟨L,a6,aR⟩:=bR; exact ⟨L,a6,a7.B (ag.B aR) (fun h=>by omega)⟩)),cv,U,U,U,U⟩))
 exact aH (tn (⟨[],.slice none 0 0,(E9 (by simpa using av)),aD,(⟨none,0,U,Nat.le_refl _,.inl U⟩),bR,M,U,U,U,U⟩))
 rintro aC O ⟨nx,vn,ax,aZ,bH,bV,aq,dk,dl,dn,dp⟩
 refine fx 0 dk (fx 2 dl (fx 6 dn (fx 7 dp ?_)))
 refine dA (fun bk ay=> ∃ (ak:Tx),(js r= .ok ak)∧(bl ay.heap I [.int .i64 (c.kind:Nat),aI c.flag,.bool c.ic,str stx,str ab,str ak,vn])∧(Tg ay (I+1) 71 nx.length vn (nx.map aI))∧(∃ L,L.length=7∧bl ay.heap ac L)∧(Wk w ay)∧(bk 6= .pointer (some ⟨ac,0,none⟩))∧(bk 7= .pointer (some ⟨I,0,none⟩))) ?_ ?_
 refine sq (fun aW ad=>rg U (p (aB (.slice A r.length C) U) (p (bo ea U U) (p (bp U U) (nl (tn (ad _ _ (cd U (fun c1=> ?_) (fun c1=> ?_)))))))))
 have bf:r.length=5:=aa
 have d6:(r.getD 4 []).length≤70000:=bg.2 _ (dK aa)
 have bB:=(ar.wk aq).bN
 refine sq (fun ca a2=>rg U (p (aB (.pointer (some ⟨H.rb,0,none⟩)) U) (p (aB (.slice A r.length C) U) (p (aQ bT U U aa (aw.ok (bB.2) (bL aa))) (p (ld bF U (bM.get (i:=4) bB.2 aa)) (eP U (bO qc (rH H.rb ln (r.getD 4 []) O (Wk.aG aq E.cQ) aa) U fun ey eG cS=> ?_) (fun aj w' s Y G=>⟨21,by rw [kK hlen,bS]; simp only; rw [au]; simp only; rw [ax]; simp only; rw [A6 bf s.2.1],s.1,aq.trans s.2.2⟩)))))))
 obtain ⟨rfl,b1,a1⟩:=cS
 have bt:=aq.trans a1
 have bD:=(ar.wk bt).bN
 refine nl (tn (a2 _ _ (sq (fun cc a3=>rg U (p (aB (.slice A r.length C) U) (p (aQ bT U U aa (aw.ok (bD.2) (bL aa))) (p (ld bF U (bM.get (i:=4) bD.2 aa)) (e (cl pY (Bg (r.getD 4 []) _ aa) U fun ez eH cT=> ?_)))))))))
 obtain ⟨⟨dQ,rfl,bd⟩,hE89⟩:=cT
 obtain ⟨dv,dw,rfl⟩:=cE bd
 have bu:=bt.trans hE89
 refine p mv (p (xt U U) (p (xt U U) (e (al se fun dS dz dY aN ci=> ?_))))
 have cw:=bu.trans aN.md
 refine e (b8 k9 U U U U (ci) (by simp) fun bi ah cj=> ?_)
 have a0:Wk w bi:=cw.trans' ah (fun k hk h=>by have :=bu.size; omega)
 have bh:Wk O dz:=(a1.trans hE89).trans aN.md
 have en:=a1.size
 have eo:=hE89.size
 have ep:=aN.size
 have eq:=ah.size
 have dt:Wk O bi:=bh.trans' ah (fun k hk h=>by omega)
 refine p aA (nl (tn (a3 _ _ (sq (fun ce a5=>rg U (p (aB (.pointer (some ⟨H.rb,0,none⟩)) U) (p mv (eP U (bO jr (jD H.rb ln ((dT (r.getD 4 [])).2:Nat) bi (Wk.aG a0 E.cQ)) U fun eA eI cU=> ?_) (fun aj w' s Y G=>⟨_,by rw [kK hlen,bS]; simp only; rw [au]; simp only; rw [ax]; simp only; rw [A7 bf b1 (by have :=s.2.1; omega)],s.1,by rw [s.2.2]; exact a0⟩)))))))))
 obtain ⟨rfl,b2,rfl⟩:=cU
 have b2:(dT (r.getD 4 [])).2=0:=aa
 refine nl (tn (a5 _ _ (rg U (p (cC ky U (U) (fun j bX=>cj.bI j)) (e (cl zm (F8 (dT (r.getD 4 [])).1 dv dw _ (aw.md (aw.wk (aJ bd).2 aN.md) ah (fun c6 h=>by have :=FI bd c6; omega)) (by have :=Bf (r.getD 4 []); omega)) U fun eB eJ cV=> ?_))))))
 obtain ⟨rfl,ap⟩:=cV
 have cA:=a0.trans ap
 have em:=ap.size
 refine p (fa C4 U) (e (st j9 U U (U) (ap.B (ah.B (bh.B aZ) (fun h=>by have :=aZ.lt; omega))) (by simp) fun dG a9 ck=> ?_))
 have cx:Wk w dG:=cA.trans' a9 (fun k hk h=>by omega)
 exact nl (tn (⟨l9 (dT (r.getD 4 [])).1,(A8 bf b1 b2),ck,((Tg.vU (Tg.wk bH (dt.trans ap)) a9 (fun k hk=>by omega))),((by obtain ⟨L,a6,aR⟩:=bV; exact ⟨L,a6,a9.B (ap.B (ah.B (bh.B aR) (fun h=>by have :=aR.lt; omega))) (fun h=>by omega)⟩)),cx,U,U⟩))
 exact aH (tn (⟨[46],(A9 aa),aZ,bH,bV,aq,U,U⟩))
 rintro bk ay ⟨ak,c3,cu,bG,cZ,cB,dr,ds⟩
 refine fx 6 dr (fx 7 ds ?_)
 obtain ⟨dP,cJ,c0⟩:=cZ
 obtain ⟨cf,cg,rfl⟩:=bG.slice
 exact sq (fun aW ad=>rg U (p (cC pP U (U) (fun j bX=>cu.bI j)) (e (b8 qm U U U U (c0) (by rw [cJ]; decide) fun eK bv cm=>nl (tn (ad _ _ (rt (fk (mU U (dm (cs:=gO (⟨c.kind,c.flag,c.ic,stx,ab,ak,nx,ln⟩,.slice cf nx.length cg)) U pP U (fun j bX=>by rw [cm.bI j,List.drop_eq_nil_of_le aa,List.append_nil]; rfl)) (⟨⟨c.kind,c.flag,c.ic,stx,ab,ak,nx,ln⟩,by rw [kK hlen,bS]; simp only; rw [au]; simp only; rw [ax]; simp only; rw [c3],U,⟨_,U,(Tg.vU bG bv (fun k hk=>by have :=aO.size; omega)).mono aa⟩,cB.trans' bv (fun k hk h=>by omega)⟩))))))))))
end Go.Hb.gh
end
section
set_option maxRecDepth 20000
set_option maxHeartbeats 1000000
namespace Go.Hb.kr
open Go.Hb.c6
open Go.Proofs
open Go.Hb.ff
def ei (s:Tx):Option Value:=if s=cg then some (Value.agg #[.int .i64 (4:Nat),.func (.func 65) #[] #[]]) else if s=fw then some (Value.agg #[.int .i64 (4:Nat),.func (.func 65) #[] #[]]) else if s=fq then some (Value.agg #[.int .i64 (2:Nat),.func (.func 64) #[] #[]]) else if s=fK then some (Value.agg #[.int .i64 (2:Nat),.func (.func 63) #[] #[]]) else if s=iq then some (Value.agg #[.int .i64 (2:Nat),.func (.func 62) #[] #[]]) else if s=gX then some (Value.agg #[.int .i64 (2:Nat),.func (.func 61) #[] #[]]) else if s=gK then some (Value.agg #[.int .i64 (2:Nat),.func (.func 61) #[] #[]]) else if s=gz then some (Value.agg #[.int .i64 (2:Nat),.func (.func 61) #[] #[]]) else if s=gj then some (Value.agg #[.int .i64 (2:Nat),.func (.func 61) #[] #[]]) else if s=fY then some (Value.agg #[.int .i64 (2:Nat),.func (.func 61) #[] #[]]) else if s=fL then some (Value.agg #[.int .i64 (2:Nat),.func (.func 60) #[] #[]]) else if s=fD then some (Value.agg #[.int .i64 (2:Nat),.func (.func 59) #[] #[]]) else if s=fu then some (Value.agg #[.int .i64 (2:Nat),.func (.func 58) #[] #[]]) else none
def zF:Value→Option Value:=fun _=>none
def zG:Tx→Option Value:=fun _=>none
theorem str_inj {a b:Tx} :str a=str b↔a=b:=⟨fun h=>by unfold str at h; cases h; rfl,fun h=>by rw [h]⟩
theorem iu {f:Value→Option Value} {g:Tx→Option Value} {k:Tx} {v:Value} (h:∀ s,f (str s)=g s) (s:Tx):a9 f (str k) v (str s)=if s=k then some v else g s:=by
 by_cases hs:s=k
 · subst hs; rw [ni,if_pos rfl]
 · rw [l8 (fun h2=>hs (str_inj.1 h2)),if_neg hs,h s]
theorem DJ (w:World):
 a3 Tryz.prog 32 (List.toArray []) w (fun v w'=> ∃ b,v= .map (some b)∧b=w.heap.size∧(∃ f,bz w'.heap b eQ f∧∀ s,f (str s)=ei s)∧Wk w w'):=by
 refine enter Tryz.func32 U Tryz.ntmps32 U (ag (fun _ Z=>(au (((Z _ _ (ag (fun _ aa=>(e (na fun a c bd aJ ab=> ?_))))))))))
 have aK:bz c.heap a eQ zF:=bz.nil ab
 have bf:∀ s:Tx,zF (str s)=zG s:=fun _=>rfl
 have ac:Wk w c:=aJ.md
 refine p (bU (ps:= [(0,ae 2),(1,.func (.func 58) #[] #[])]) (L:= [ae 2,.func (.func 58) #[] #[]]) iD U (U)) (e (im g8 eI (aK) U U U (⟨_,U⟩) fun E aB aQ=> ?_))
 have aY:bz E.heap a eQ (a9 zF (str fu) (Value.agg #[ae 2,.func (.func 58) #[] #[]])):=aQ
 have bg:=iu (k:=fu) (v:=Value.agg #[ae 2,.func (.func 58) #[] #[]]) bf
 have ad:Wk w E:=ac.trans' aB (fun k hk h=>by omega)
 refine p (bU (ps:= [(0,ae 2),(1,.func (.func 59) #[] #[])]) (L:= [ae 2,.func (.func 59) #[] #[]]) iD U (U)) (e (im g8 eI (aY) U U U (⟨_,U⟩) fun O aG aV=> ?_))
 have aZ:bz O.heap a eQ (a9 (a9 zF (str fu) (Value.agg #[ae 2,.func (.func 58) #[] #[]])) (str fD) (Value.agg #[ae 2,.func (.func 59) #[] #[]])):=aV
 have bl:=iu (k:=fD) (v:=Value.agg #[ae 2,.func (.func 59) #[] #[]]) bg
 have al:Wk w O:=ad.trans' aG (fun k hk h=>by omega)
 refine p (bU (ps:= [(0,ae 2),(1,.func (.func 60) #[] #[])]) (L:= [ae 2,.func (.func 60) #[] #[]]) iD U (U)) (e (im g8 eI (aZ) U U U (⟨_,U⟩) fun V aH aW=> ?_))
 have a4:bz V.heap a eQ (a9 (a9 (a9 zF (str fu) (Value.agg #[ae 2,.func (.func 58) #[] #[]])) (str fD) (Value.agg #[ae 2,.func (.func 59) #[] #[]])) (str fL) (Value.agg #[ae 2,.func (.func 60) #[] #[]])):=aW
 have bm:=iu (k:=fL) (v:=Value.agg #[ae 2,.func (.func 60) #[] #[]]) bl
 have am:Wk w V:=al.trans' aH (fun k hk h=>by omega)
 refine p (bU (ps:= [(0,ae 2),(1,.func (.func 61) #[] #[])]) (L:= [ae 2,.func (.func 61) #[] #[]]) iD U (U)) (e (im g8 eI (a4) U U U (⟨_,U⟩) fun Y aI aX=> ?_))
 have a5:bz Y.heap a eQ (a9 (a9 (a9 (a9 zF (str fu) (Value.agg #[ae 2,.func (.func 58) #[] #[]])) (str fD) (Value.agg #[ae 2,.func (.func 59) #[] #[]])) (str fL) (Value.agg #[ae 2,.func (.func 60) #[] #[]])) (str fY) (Value.agg #[ae 2,.func (.func 61) #[] #[]])):=aX
 have bn:=iu (k:=fY) (v:=Value.agg #[ae 2,.func (.func 61) #[] #[]]) bm
 have an:Wk w Y:=am.trans' aI (fun k hk h=>by omega)
 refine p (bU (ps:= [(0,ae 2),(1,.func (.func 61) #[] #[])]) (L:= [ae 2,.func (.func 61) #[] #[]]) iD U (U)) (e (im g8 eI (a5) U U U (⟨_,U⟩) fun i aw aL=> ?_))
 have a6:bz i.heap a eQ (a9 (a9 (a9 (a9 (a9 zF (str fu) (Value.agg #[ae 2,.func (.func 58) #[] #[]])) (str fD) (Value.agg #[ae 2,.func (.func 59) #[] #[]])) (str fL) (Value.agg #[ae 2,.func (.func 60) #[] #[]])) (str fY) (Value.agg #[ae 2,.func (.func 61) #[] #[]])) (str gj) (Value.agg #[ae 2,.func (.func 61) #[] #[]])):=aL
 have bo:=iu (k:=gj) (v:=Value.agg #[ae 2,.func (.func 61) #[] #[]]) bn
 have ao:Wk w i:=an.trans' aw (fun k hk h=>by omega)
 refine p (bU (ps:= [(0,ae 2),(1,.func (.func 61) #[] #[])]) (L:= [ae 2,.func (.func 61) #[] #[]]) iD U (U)) (e (im g8 eI (a6) U U U (⟨_,U⟩) fun j ax aM=> ?_))
 have a7:bz j.heap a eQ (a9 (a9 (a9 (a9 (a9 (a9 zF (str fu) (Value.agg #[ae 2,.func (.func 58) #[] #[]])) (str fD) (Value.agg #[ae 2,.func (.func 59) #[] #[]])) (str fL) (Value.agg #[ae 2,.func (.func 60) #[] #[]])) (str fY) (Value.agg #[ae 2,.func (.func 61) #[] #[]])) (str gj) (Value.agg #[ae 2,.func (.func 61) #[] #[]])) (str gz) (Value.agg #[ae 2,.func (.func 61) #[] #[]])):=aM
 have bp:=iu (k:=gz) (v:=Value.agg #[ae 2,.func (.func 61) #[] #[]]) bo
 have ap:Wk w j:=ao.trans' ax (fun k hk h=>by omega)
 refine p (bU (ps:= [(0,ae 2),(1,.func (.func 61) #[] #[])]) (L:= [ae 2,.func (.func 61) #[] #[]]) iD U (U)) (e (im g8 eI (a7) U U U (⟨_,U⟩) fun q ay aN=> ?_))
 have a8:bz q.heap a eQ (a9 (a9 (a9 (a9 (a9 (a9 (a9 zF (str fu) (Value.agg #[ae 2,.func (.func 58) #[] #[]])) (str fD) (Value.agg #[ae 2,.func (.func 59) #[] #[]])) (str fL) (Value.agg #[ae 2,.func (.func 60) #[] #[]])) (str fY) (Value.agg #[ae 2,.func (.func 61) #[] #[]])) (str gj) (Value.agg #[ae 2,.func (.func 61) #[] #[]])) (str gz) (Value.agg #[ae 2,.func (.func 61) #[] #[]])) (str gK) (Value.agg #[ae 2,.func (.func 61) #[] #[]])):=aN
 have bq:=iu (k:=gK) (v:=Value.agg #[ae 2,.func (.func 61) #[] #[]]) bp
 have aq:Wk w q:=ap.trans' ay (fun k hk h=>by omega)
 refine p (bU (ps:= [(0,ae 2),(1,.func (.func 61) #[] #[])]) (L:= [ae 2,.func (.func 61) #[] #[]]) iD U (U)) (e (im g8 eI (a8) U U U (⟨_,U⟩) fun A az aO=> ?_))
 have ba:bz A.heap a eQ (a9 (a9 (a9 (a9 (a9 (a9 (a9 (a9 zF (str fu) (Value.agg #[ae 2,.func (.func 58) #[] #[]])) (str fD) (Value.agg #[ae 2,.func (.func 59) #[] #[]])) (str fL) (Value.agg #[ae 2,.func (.func 60) #[] #[]])) (str fY) (Value.agg #[ae 2,.func (.func 61) #[] #[]])) (str gj) (Value.agg #[ae 2,.func (.func 61) #[] #[]])) (str gz) (Value.agg #[ae 2,.func (.func 61) #[] #[]])) (str gK) (Value.agg #[ae 2,.func (.func 61) #[] #[]])) (str gX) (Value.agg #[ae 2,.func (.func 61) #[] #[]])):=aO
 have br:=iu (k:=gX) (v:=Value.agg #[ae 2,.func (.func 61) #[] #[]]) bq
 have ar:Wk w A:=aq.trans' az (fun k hk h=>by omega)
 refine p (bU (ps:= [(0,ae 2),(1,.func (.func 62) #[] #[])]) (L:= [ae 2,.func (.func 62) #[] #[]]) iD U (U)) (e (im g8 eI (ba) U U U (⟨_,U⟩) fun C aA aP=> ?_))
 have bb:bz C.heap a eQ (a9 (a9 (a9 (a9 (a9 (a9 (a9 (a9 (a9 zF (str fu) (Value.agg #[ae 2,.func (.func 58) #[] #[]])) (str fD) (Value.agg #[ae 2,.func (.func 59) #[] #[]])) (str fL) (Value.agg #[ae 2,.func (.func 60) #[] #[]])) (str fY) (Value.agg #[ae 2,.func (.func 61) #[] #[]])) (str gj) (Value.agg #[ae 2,.func (.func 61) #[] #[]])) (str gz) (Value.agg #[ae 2,.func (.func 61) #[] #[]])) (str gK) (Value.agg #[ae 2,.func (.func 61) #[] #[]])) (str gX) (Value.agg #[ae 2,.func (.func 61) #[] #[]])) (str iq) (Value.agg #[ae 2,.func (.func 62) #[] #[]])):=aP
 have bs:=iu (k:=iq) (v:=Value.agg #[ae 2,.func (.func 62) #[] #[]]) br
 have av:Wk w C:=ar.trans' aA (fun k hk h=>by omega)
 refine p (bU (ps:= [(0,ae 2),(1,.func (.func 63) #[] #[])]) (L:= [ae 2,.func (.func 63) #[] #[]]) iD U (U)) (e (im g8 eI (bb) U U U (⟨_,U⟩) fun G aC aR=> ?_))
 have bc:bz G.heap a eQ (a9 (a9 (a9 (a9 (a9 (a9 (a9 (a9 (a9 (a9 zF (str fu) (Value.agg #[ae 2,.func (.func 58) #[] #[]])) (str fD) (Value.agg #[ae 2,.func (.func 59) #[] #[]])) (str fL) (Value.agg #[ae 2,.func (.func 60) #[] #[]])) (str fY) (Value.agg #[ae 2,.func (.func 61) #[] #[]])) (str gj) (Value.agg #[ae 2,.func (.func 61) #[] #[]])) (str gz) (Value.agg #[ae 2,.func (.func 61) #[] #[]])) (str gK) (Value.agg #[ae 2,.func (.func 61) #[] #[]])) (str gX) (Value.agg #[ae 2,.func (.func 61) #[] #[]])) (str iq) (Value.agg #[ae 2,.func (.func 62) #[] #[]])) (str fK) (Value.agg #[ae 2,.func (.func 63) #[] #[]])):=aR
 have bh:=iu (k:=fK) (v:=Value.agg #[ae 2,.func (.func 63) #[] #[]]) bs
 have ah:Wk w G:=av.trans' aC (fun k hk h=>by omega)
 refine p (bU (ps:= [(0,ae 2),(1,.func (.func 64) #[] #[])]) (L:= [ae 2,.func (.func 64) #[] #[]]) iD U (U)) (e (im g8 eI (bc) U U U (⟨_,U⟩) fun I aD aS=> ?_))
 have a0:bz I.heap a eQ (a9 (a9 (a9 (a9 (a9 (a9 (a9 (a9 (a9 (a9 (a9 zF (str fu) (Value.agg #[ae 2,.func (.func 58) #[] #[]])) (str fD) (Value.agg #[ae 2,.func (.func 59) #[] #[]])) (str fL) (Value.agg #[ae 2,.func (.func 60) #[] #[]])) (str fY) (Value.agg #[ae 2,.func (.func 61) #[] #[]])) (str gj) (Value.agg #[ae 2,.func (.func 61) #[] #[]])) (str gz) (Value.agg #[ae 2,.func (.func 61) #[] #[]])) (str gK) (Value.agg #[ae 2,.func (.func 61) #[] #[]])) (str gX) (Value.agg #[ae 2,.func (.func 61) #[] #[]])) (str iq) (Value.agg #[ae 2,.func (.func 62) #[] #[]])) (str fK) (Value.agg #[ae 2,.func (.func 63) #[] #[]])) (str fq) (Value.agg #[ae 2,.func (.func 64) #[] #[]])):=aS
 have bi:=iu (k:=fq) (v:=Value.agg #[ae 2,.func (.func 64) #[] #[]]) bh
 have ai:Wk w I:=ah.trans' aD (fun k hk h=>by omega)
 refine p (bU (ps:= [(0,ae 4),(1,.func (.func 65) #[] #[])]) (L:= [ae 4,.func (.func 65) #[] #[]]) iD U (U)) (e (im g8 eI (a0) U U U (⟨_,U⟩) fun J aE aT=> ?_))
 have a1:bz J.heap a eQ (a9 (a9 (a9 (a9 (a9 (a9 (a9 (a9 (a9 (a9 (a9 (a9 zF (str fu) (Value.agg #[ae 2,.func (.func 58) #[] #[]])) (str fD) (Value.agg #[ae 2,.func (.func 59) #[] #[]])) (str fL) (Value.agg #[ae 2,.func (.func 60) #[] #[]])) (str fY) (Value.agg #[ae 2,.func (.func 61) #[] #[]])) (str gj) (Value.agg #[ae 2,.func (.func 61) #[] #[]])) (str gz) (Value.agg #[ae 2,.func (.func 61) #[] #[]])) (str gK) (Value.agg #[ae 2,.func (.func 61) #[] #[]])) (str gX) (Value.agg #[ae 2,.func (.func 61) #[] #[]])) (str iq) (Value.agg #[ae 2,.func (.func 62) #[] #[]])) (str fK) (Value.agg #[ae 2,.func (.func 63) #[] #[]])) (str fq) (Value.agg #[ae 2,.func (.func 64) #[] #[]])) (str fw) (Value.agg #[ae 4,.func (.func 65) #[] #[]])):=aT
 have bj:=iu (k:=fw) (v:=Value.agg #[ae 4,.func (.func 65) #[] #[]]) bi
 have aj:Wk w J:=ai.trans' aE (fun k hk h=>by omega)
 refine p (bU (ps:= [(0,ae 4),(1,.func (.func 65) #[] #[])]) (L:= [ae 4,.func (.func 65) #[] #[]]) iD U (U)) (e (im g8 eI (a1) U U U (⟨_,U⟩) fun M aF aU=> ?_))
 have a2:bz M.heap a eQ (a9 (a9 (a9 (a9 (a9 (a9 (a9 (a9 (a9 (a9 (a9 (a9 (a9 zF (str fu) (Value.agg #[ae 2,.func (.func 58) #[] #[]])) (str fD) (Value.agg #[ae 2,.func (.func 59) #[] #[]])) (str fL) (Value.agg #[ae 2,.func (.func 60) #[] #[]])) (str fY) (Value.agg #[ae 2,.func (.func 61) #[] #[]])) (str gj) (Value.agg #[ae 2,.func (.func 61) #[] #[]])) (str gz) (Value.agg #[ae 2,.func (.func 61) #[] #[]])) (str gK) (Value.agg #[ae 2,.func (.func 61) #[] #[]])) (str gX) (Value.agg #[ae 2,.func (.func 61) #[] #[]])) (str iq) (Value.agg #[ae 2,.func (.func 62) #[] #[]])) (str fK) (Value.agg #[ae 2,.func (.func 63) #[] #[]])) (str fq) (Value.agg #[ae 2,.func (.func 64) #[] #[]])) (str fw) (Value.agg #[ae 4,.func (.func 65) #[] #[]])) (str cg) (Value.agg #[ae 4,.func (.func 65) #[] #[]])):=aU
 have bk:=iu (k:=cg) (v:=Value.agg #[ae 4,.func (.func 65) #[] #[]]) bj
 have ak:Wk w M:=aj.trans' aF (fun k hk h=>by omega)
 exact p mv (au (((aa _ _ (rt (f1 U U (⟨a,U,bd,⟨_,a2,fun s=>bk s⟩,ak⟩)))))))
end Go.Hb.kr
end
section
set_option maxRecDepth 20000
set_option maxHeartbeats 1000000
namespace Go.Hb.ji
open Go.Hb.c6
open Go.Proofs
open Go.Hb.ff Go.Hb.fP Go.Hb.jV Go.Hb.gh Go.Hb.jZ Go.Hb.iG Go.Hb.kS Go.Hb.gu Go.Hb.lD Go.Hb.mz Go.Hb.gP Go.Hb.gG
theorem bQ.yS {w j s:World} {B fb mc:Nat} {F:aM} {V:dq} {v:Value} {x:Tx×Tx} (h:bQ w B fb mc F V) (hm:Md (fun k=>V.v9.ownBlock=some k) w j) (E:World.ownsRow j B 163 2 v (F.bW++ [x]).length (jf (F.bW++ [x]))) (a:Md (fun k=>k=fb) j s) (G:s.heap[fb]? =some (.cells (jx {F with bW:=F.bW++ [x]} {V with v9:=v} mc).toArray 89 (0,0))):bQ s B fb mc {F with bW:=F.bW++ [x]} {V with v9:=v} :=by
 have c:TF w [165] (fun k=>V.v9.ownBlock=some k):=TF.own h.o9 ao
 have q:=hm.iK c h.cells ao
 have p:TF j [91] (fun k=>k=fb):=TF.eq (c5 q) ao
 have A:∀ k,V.v9.ownBlock=some k→∀ cur z,w.heap[k]?≠some (.cells cur 71 z):=e9 h.o9 ao
 have C:∀ k,k=fb→∀ cur z,j.heap[k]?≠some (.cells cur 71 z):=eG q ao
 obtain ⟨f,i,I⟩:=h.cm
 have J:=cH (i.md hm (c.no (cH i) ao))
 exact ⟨G,bK E a (fun k hk i=>cT E q ao (i ▸ hk)),cJ (cJ h.e8 hm c ao) a p ao,(h.al.md hm A).md a C,cJ (cJ h.eB hm c ao) a p ao,cJ (cJ h.dY hm c ao) a p ao,(h.nx.md hm A).md a C,⟨f,(i.md hm (c.no (cH i) ao)).md a (p.no J ao),I⟩,h.lo,h.gC⟩
theorem bQ.yP {w j C:World} {B fb mc:Nat} {F:aM} {V:dq} {v:Value} {x:List Nat} {vx:Value} (h:bQ w B fb mc F V) (M:Tg w B 71 x.length vx (x.map aI)) (hm:Md (fun k=>V.v10.ownBlock=some k) w j) (E:World.ownsRow j B 54 1 v (F.aliases++ [x]).length ((V.sa++ [vx]))) (a:Md (fun k=>k=fb) j C) (G:C.heap[fb]? =some (.cells (jx {F with aliases:=F.aliases++ [x]} {V with v10:=v,sa:=V.sa++ [vx]} mc).toArray 89 (0,0))):bQ C B fb mc {F with aliases:=F.aliases++ [x]} {V with v10:=v,sa:=V.sa++ [vx]} :=by
 have c:TF w [56] (fun k=>V.v10.ownBlock=some k):=TF.own h.e8 ao
 have q:=hm.iK c h.cells ao
 have p:TF j [91] (fun k=>k=fb):=TF.eq (c5 q) ao
 have s:∀ k,V.v10.ownBlock=some k→∀ cur z,w.heap[k]?≠some (.cells cur 71 z):=e9 h.e8 ao
 have A:∀ k,k=fb→∀ cur z,j.heap[k]?≠some (.cells cur 71 z):=eG q ao
 obtain ⟨f,i,I⟩:=h.cm
 have J:=cH (i.md hm (c.no (cH i) ao))
 exact ⟨G,cJ (cJ h.o9 hm c ao) a p ao,bK E a (fun k hk i=>cT E q ao (i ▸ hk)),((h.al.md hm s).md a A).snoc ((M.md hm s).md a A),cJ (cJ h.eB hm c ao) a p ao,cJ (cJ h.dY hm c ao) a p ao,(h.nx.md hm s).md a A,⟨f,(i.md hm (c.no (cH i) ao)).md a (p.no J ao),I⟩,h.lo,h.gC⟩
theorem bQ.yR {w j C:World} {B fb mc:Nat} {F:aM} {V:dq} {v:Value} {x:eX} {vx:Value} (h:bQ w B fb mc F V) (M:Tg w B 71 x.next.length vx (x.next.map aI)) (hm:Md (fun k=>V.dG.ownBlock=some k) w j) (E:World.ownsRow j B 155 7 v (F.rules++ [x]).length (fc ((F.rules++ [x]).zip (V.rn++ [vx])))) (a:Md (fun k=>k=fb) j C) (G:C.heap[fb]? =some (.cells (jx {F with rules:=F.rules++ [x]} {V with dG:=v,rn:=V.rn++ [vx]} mc).toArray 89 (0,0))):bQ C B fb mc {F with rules:=F.rules++ [x]} {V with dG:=v,rn:=V.rn++ [vx]} :=by
 have c:TF w [157] (fun k=>V.dG.ownBlock=some k):=TF.own h.dY ao
 have q:=hm.iK c h.cells ao
 have p:TF j [91] (fun k=>k=fb):=TF.eq (c5 q) ao
 have s:∀ k,V.dG.ownBlock=some k→∀ cur z,w.heap[k]?≠some (.cells cur 71 z):=e9 h.dY ao
 have A:∀ k,k=fb→∀ cur z,j.heap[k]?≠some (.cells cur 71 z):=eG q ao
 obtain ⟨f,i,I⟩:=h.cm
 have J:=cH (i.md hm (c.no (cH i) ao))
 exact ⟨G,cJ (cJ h.o9 hm c ao) a p ao,cJ (cJ h.e8 hm c ao) a p ao,(h.al.md hm s).md a A,cJ (cJ h.eB hm c ao) a p ao,bK E a (fun k hk i=>cT E q ao (i ▸ hk)),(by rw [List.map_append]; exact ((h.nx.md hm s).md a A).snoc ((M.md hm s).md a A)),⟨f,(i.md hm (c.no (cH i) ao)).md a (p.no J ao),I⟩,h.lo,h.gC⟩
theorem bC.own {w w':World} {B:Nat} {H:bw} {F:aM} {R:dV} {rows:List Rw} {ln:Nat} {seen:List Tx} {c e s n:Nat} {v:Value} {xs:List Value} (h:bC w B H F R rows ln seen) (q:World.ownsRow w c e s v n xs) (hm:Md (fun k=>v.ownBlock=some k) w w') (i:([e+2].contains 94 || [e+2].contains 107 || [e+2].contains 11 || [e+2].contains 5)=false):bC w' B H F R rows ln seen:=by
 have a:TF w [e+2] (fun k=>v.ownBlock=some k):=TF.own q (by simp)
 obtain ⟨f,j,_⟩:=h.sm
 obtain ⟨g,p,_⟩:=h.tm
 exact h.md hm a i (a.no (cH j) (by simp)) (a.no (cH p) (by simp))
theorem bC.oB {w w':World} {B:Nat} {H:bw} {F:aM} {R:dV} {rows:List Rw} {ln:Nat} {seen:List Tx} {cs:Array Value} {z:Nat×Nat} (h:bC w B H F R rows ln seen) (c:w.heap[H.fb]? =some (.cells cs 89 z)) (hm:Md (fun k=>k=H.fb) w w'):bC w' B H F R rows ln seen:=by
 have a:TF w [91] (fun k=>k=H.fb):=TF.eq (c5 c) ao
 obtain ⟨f,i,p⟩:=h.sm
 obtain ⟨g,j,q⟩:=h.tm
 exact h.md hm a ao (a.no (cH i) ao) (a.no (cH j) ao)
theorem Tg.rz {w:World} {b e n:Nat} {L:List Value} {z:Nat×Nat} (h:w.heap[b]? =some (.cells L.toArray e z)) (hn:n=L.length):Tg w b e n (.slice (some ⟨b,0,none⟩) n n) L:=⟨_,_,rfl,Nat.le_refl _,.inr ⟨b,_,_,rfl,Nat.le_refl _,h,fun j u hu=>by simpa using hu⟩⟩
theorem gE.lQ {F:aM} {q:Rw} {rest:List Rw} {seen:List Tx} (h:gE F (q::rest) seen):gE F rest seen:=⟨by have :=h.len; simp only [List.length_cons] at this; omega,by have :=h.sl; simp only [List.length_cons] at this; omega,fun a h2=>h.row a (List.mem_cons_of_mem _ h2),h.kd,h.al⟩
theorem Gq {eof ln e:Nat} {F:aM} {rows:List Rw} {r:List Tx} (h:cR (r.getD 1 []) 256= .error e):g6 eof F rows ln r= .error (ln,e):=by unfold g6; rw [h]
theorem nm {eof ln n:Nat} {F:aM} {rows:List Rw} {r:List Tx} {e:Nat×Nat} (h:cR (r.getD 1 []) 256= .ok n) (h1:group [fK] iR eof n rows= .error e):g6 eof F rows ln r= .error e:=by unfold g6; rw [h]; simp only; rw [h1]
theorem Gr {eof ln n:Nat} {F:aM} {rows:List Rw} {r:List Tx} {q:List (Tx×Tx)×List Rw} (h:cR (r.getD 1 []) 256= .ok n) (h1:group [fK] iR eof n rows= .ok q):g6 eof F rows ln r= .ok ({F with bW:=F.bW++q.1},q.2):=by unfold g6; rw [h]; simp only; rw [h1]
theorem rv {s:Tx} {most:Int} {n:Nat} (h:cR s most= .ok n):(n:Int)≤most:=by
 unfold cR at h
 split at h
 · cases h
 · rename_i a; cases h; exact oT s most (Classical.not_not.1 a)
theorem yG {eof ln:Nat} {F:aM} {hs:List Tx} {rows:List Rw} {r:List Tx} (h:fw∈hs∨cg∈hs):gH eof F hs rows ln r= .error (ln,113):=if_pos h
theorem yH {eof ln e:Nat} {F:aM} {hs:List Tx} {rows:List Rw} {r:List Tx} (a:¬(fw∈hs∨cg∈hs)) (h:cR (r.getD 1 []) 1024= .error e):gH eof F hs rows ln r= .error (ln,e):=by unfold gH; rw [if_neg a,h]
theorem nY {eof ln n:Nat} {F:aM} {hs:List Tx} {rows:List Rw} {r:List Tx} {e:Nat×Nat} (a:¬(fw∈hs∨cg∈hs)) (h:cR (r.getD 1 []) 1024= .ok n) (h1:group [fq] (iY F.kind) eof n rows= .error e):gH eof F hs rows ln r= .error e:=by unfold gH; rw [if_neg a,h]; simp only; rw [h1]
theorem yI {eof ln n:Nat} {F:aM} {hs:List Tx} {rows:List Rw} {r:List Tx} {q:List (List Nat)×List Rw} (a:¬(fw∈hs∨cg∈hs)) (h:cR (r.getD 1 []) 1024= .ok n) (h1:group [fq] (iY F.kind) eof n rows= .ok q):gH eof F hs rows ln r= .ok ({F with aliases:=F.aliases++q.1},q.2):=by unfold gH; rw [if_neg a,h]; simp only; rw [h1]
theorem yC {kind ln:Nat} {r:List Tx} (h:r.length≠2):iY kind ln r= .error 111:=if_pos h
theorem sG {kind ln:Nat} {r:List Tx} (h:r.length=2):iY kind ln r=iO kind (r.getD 1 []):=if_neg aa
theorem uX {kind:Nat} {s:Tx} (h:(dH kind s).2=0):(dH kind s).1.length≤64∧(dH kind s).1.Pairwise (· < ·):=by
 unfold dH at h ⊢
 split
 · simp
 · split
   · simp
   · split
     · simp
     · rename_i h3
       exact ⟨by have :=Fq ((da kind s).map (dd kind)); rw [List.length_map] at this; exact Nat.le_trans this aa,wq _⟩
theorem Gk {ln:Nat} {r:List Tx} (h:r.length≠3):iR ln r= .error 111:=if_pos h
theorem Gl {ln e:Nat} {r:List Tx} (h:r.length=3) (h1:ek false (r.getD 1 [])= .error e):iR ln r= .error e:=by unfold iR; rw [if_neg aa,h1]
theorem Gm {ln e:Nat} {r:List Tx} {a:Tx} (h:r.length=3) (h1:ek false (r.getD 1 [])= .ok a) (h2:ek true (r.getD 2 [])= .error e):iR ln r= .error e:=by unfold iR; rw [if_neg aa,h1]; simp only; rw [h2]
theorem Gn {ln:Nat} {r:List Tx} {a b:Tx} (h:r.length=3) (h1:ek false (r.getD 1 [])= .ok a) (h2:ek true (r.getD 2 [])= .ok b):iR ln r= .ok (a,b):=by unfold iR; rw [if_neg aa,h1]; simp only; rw [h2]
theorem Gs (B:Nat) (H:bw) (F:aM) (rows:List Rw) (ln:Nat) (seen:List Tx) (r:List Tx) (bb:Nat) (az:Option Addr) (aD:Nat) (w:World) (C:St w B H F rows ln seen) (bH:Tg w bb 9 r.length (.slice az r.length aD) (r.map str)) (cp:r.length=2) (bX:∀ x∈r,x.length≤70000):
 c8 Tryz.prog 63 (List.toArray [.pointer (some ⟨H.rb,0,none⟩),.slice az r.length aD]) w (eW B H seen (g6 H.eof F rows ln r) w) (eV B H (g6 H.eof F rows ln r) w):=by
 obtain ⟨V,R,Z,aK,aU⟩:=C
 have a5:=bH.bN
 have cq:(r.getD 1 []).length≤70000:=bX _ (dK aa)
 have cn:=aK.lo
 have cj:=aU.len
 refine fI Tryz.func63 U Tryz.ntmps63 U (sq (fun b7 bj=>rg U (p (aB (.pointer (some ⟨H.rb,0,none⟩)) U) (p (aB (.slice az r.length aD) U) (p (aQ bT U U aa (aw.ok (a5.2) (bL aa))) (p (ld bF U (bM.get (i:=1) a5.2 aa)) (eP U (bO oa (oZ H.rb ln (r.getD 1 []) 256 w aK.cQ aa aa) U fun v10 cv bx=> ?_) (fun c w' s ax Z=>by obtain ⟨e,he,h,h2⟩:=s; exact ⟨ln,e,Gq he,h,Wk.mw h2⟩))))))))
 obtain ⟨n,M,rfl,aE⟩:=bx
 have co:=rv M
 refine p mv (nl (tn (bj _ _ (aC (lp (fun aT ay ak=> ∃ (i:Nat) (xs:List (Tx×Tx)) (rows':List Rw) (av:Nat) (j:dq) (R':dV),(i≤n)∧(eD [fK] iR H.eof (group [fK] iR H.eof n rows) xs (n - i) rows')∧(xs.length=i)∧(bQ ak B H.fb H.mc {F with bW:=F.bW++xs} j)∧(bC ak B H F R' rows' av seen)∧(gE {F with bW:=F.bW++xs} rows' seen)∧(c7 B H w ak)∧(ay 0= .pointer (some ⟨H.rb,0,none⟩))∧(ay 10= .int .i64 (n:Nat))∧(ay 11= .int .i64 (i:Nat))∧(n - i=aT)) _ ⟨0,[],rows,ln,V,R,aa,eD.start,U,((by rw [List.append_nil]; exact Z.wk aE)),(aK.wk aE),((by rw [List.append_nil]; exact aU)),(Wk.mw aE),U,U,U,U⟩ ?_)))))
 rintro aT ay ak ⟨i,xs,rows',av,j,R',hi,E,b2,aV,ai,ag,aW,bY,bZ,b0,rfl⟩
 refine fx 0 bY (fx 10 bZ (fx 11 b0 (sq (fun b8 bk=>rg U (p (lt U U) (nl (tn (bk _ _ (sq (fun b9 bl=>cd U (fun bJ=> ?_) (fun bJ=> ?_)))))))))))
 refine aH (tn (bl _ _ (sq (fun ca bm=>aC (sq (fun cb bq=>rg U (p (aB (.pointer (some ⟨H.rb,0,none⟩)) U) (e (lM (L:= [str fK]) dC U U U U fun bd a9 ch bv bf=> ?_)))))))))
 have Y:Wk ak a9:=bv.md
 have aX:=aW.trans (Wk.mw Y)
 refine eP U (bO qe (qY B H F R' rows' av seen [fK] bd 1 _ _ a9 (ai.wk Y) (Tg.rz bf U) U ao (fun q bS=>(ag.row q bS).2.1)) U fun cs b3 bz=> ?_) (fun c w' s ax Z=>by
  obtain ⟨h1,h2⟩:=s
  have hm:=aX.trans (c7.rb (ai.wk Y) h2)
  rcases h1 with ⟨rfl,h3⟩ | ⟨ae,J,rest,rfl,h4,h3⟩
  exact ⟨_,_,nm M (E.ends aa),h3,hm⟩
  exact ⟨_,_,nm M (E.other aa h4),h3,hm⟩)
 obtain ⟨ae,J,rest,rfl,au,⟨bc,aL⟩,hT15,hM15⟩:=bz
 obtain ⟨cf,n6,rfl⟩:=hT15.slice
 have bi:=(aV.wk Y).rb (ai.wk Y) hM15
 have aJ:=aX.trans (c7.rb (ai.wk Y) hM15)
 have a8:J≠[]∧J.length≤70000∧∀ x∈J,x.length≤70000:=ag.row (ae,J) (by simp)
 have am:=gE.lQ ag
 have a2:=hT15.bN
 have bI:=ag.len
 simp only [List.length_cons,List.length_append] at bI
 refine p aA (nl (tn (bq _ _ (sq (fun cc br=>rg U (p (aB (.pointer (some ⟨H.rb,0,none⟩)) U) (p mv (p (bo ea U U) (p (bp U U) (eP U (bO ed (ej H.rb ae _ 111 b3 aL.cQ ao) U fun v20 b4 bA=> ?_) (fun c w' s ax Z=>⟨_,_,nm M (E.bad aa au (Gk (by have :=of_decide_eq_false s.2.1; omega))),s.1,by rw [s.2.2]; exact aJ⟩)))))))))))
 obtain ⟨rfl,b1,rfl⟩:=bA
 have aR:J.length=3:=by have :=of_decide_eq_true b1; omega
 have cl:=a8.2.2 _ (dK (d:= []) (i:=1) aa)
 have cm:=a8.2.2 _ (dK (d:= []) (i:=2) aa)
 refine nl (tn (br _ _ (sq (fun ce bs=>rg U (p (aB (.pointer (some ⟨H.rb,0,none⟩)) U) (p mv (p (aQ bT U U aa (aw.ok (a2.2) (bL aa))) (p (ld bF U (bM.get (i:=1) a2.2 aa)) (eP U (bO tD (wV H.rb ae (J.getD 1 []) b4 aL.cQ aa) U fun ct O bB=> ?_) (fun c w' s ax Z=>by obtain ⟨e,he,h,h2⟩:=s; exact ⟨_,_,nm M (E.bad aa au (Gl aR he)),h,aJ.trans (Wk.mw h2)⟩))))))))))
 obtain ⟨G,a7,rfl,an⟩:=bB
 have ac:=bi.wk an
 have aj:=aL.wk an
 have a3:=hT15.wk an
 have aY:=aJ.trans (Wk.mw an)
 have aP:¬(j.v9.ownBlock=some H.rb):=cT ac.o9 aj.cells ao
 have bK:¬(j.v9.ownBlock=some H.fb):=cT ac.o9 ac.cells ao
 refine p aA (nl (tn (bs _ _ ?_)))
 have a:(fun w'=>Md (fun k=>j.v9.ownBlock=some k) O w') O.drew:=(Md.refl _ _).drew
 refine dy (fun w'=>Md (fun k=>j.v9.ownBlock=some k) O w') 24 U wide a (bD 0 U ab (fun _=>aB (.pointer (some ⟨H.rb,0,none⟩)) U) (fun _=>a) (bD 1 U ab (fun _=>nc U) (fun _=>a) (bD 2 U ab (fun _=>fa dX U) (fun _=>a) (fZ 3 U ab (fun w' C=>ld dO U (Md.aG C ((a4 aj.cells).trans U) aP)) a (bD 4 U ab (fun _=>aB (.pointer (some ⟨H.rb,0,none⟩)) U) (fun _=>a) (bD 5 U ab (fun _=>nc U) (fun _=>a) (bD 6 U ab (fun _=>fa dX U) (fun _=>a) (fZ 7 U ab (fun w' C=>ld dO U (Md.aG C ((a4 aj.cells).trans U) aP)) a (bD 8 U ab (fun _=>nc U) (fun _=>a) (bD 9 U ab (fun _=>fa dQ U) (fun _=>a) (bD 10 U ab (fun _=>fa oK U) (fun _=>a) (fZ 11 U ab (fun w' C=>ld sE U (Md.aG C ((a4 ac.cells).trans U) bK)) a (bD 12 U ab (fun _=>mv) (fun _=>a) (bD 13 U ab (fun _=>aB (.pointer (some ⟨H.rb,0,none⟩)) U) (fun _=>a) (bD 14 U ab (fun _=>mv) (fun _=>a) ?_)))))))))))))))
 refine bD 15 U ab (fun _=>aQ bT U U aa (aw.ok (a3.bN.2) (bL aa))) (fun _=>a) (fZ 16 U ab (fun w' C=>ld bF U (bM.get (i:=2) (a3.md C (e9 ac.o9 ao)).bN.2 aa)) a (vM 17 U ab U (bO sY (wT H.rb ae (J.getD 2 []) O.drew (Md.aG a aj.cQ aP) aa) U fun cu b5 bE=> ?_) (fun c w' s ax Z=>by obtain ⟨e,he,h,h2⟩:=s; exact ⟨_,_,nm M (E.bad aa au (Gm aR a7 he)),h,aY.trans (Wk.mw (fz h2))⟩)))
 obtain ⟨I,bR,rfl,aq⟩:=bE
 have aq:=fz aq
 have aN:(fun w'=>Md (fun k=>j.v9.ownBlock=some k) O w') b5:=Md.mono aq (fun _ _ h=>h.elim)
 refine ⟨aN,?_⟩
 refine bD 18 U ab (fun _=>bU (ps:= [(0,str G),(1,str I)]) (L:= [str G,str I]) Hh U (U)) (fun _=>aN) (gA 19 U ab (j4 po U U U fun cg b6 ci aZ bg=> ?_))
 have aF:=aq.trans aZ.md
 have A:=ac.wk aF
 have a0:=aj.wk aF
 have a1:(fun w'=>Md (fun k=>j.v9.ownBlock=some k) O w') b6:=aN.trans' aZ.md (fun _ _ h=>h.elim)
 refine ⟨a1,?_⟩
 refine gA 20 U ab (ap po (A.o9) U (by have :=(Array.getElem?_eq_some_iff.1 a0.cells).1; omega) U (aw.dj bg) (U) (U) (by simp only [List.length_append]; omega) (by simp only [List.length_append]; omega) fun aS ba a6 ah cr ck=> ?_)
 have bt:=(aY.trans (Wk.mw aF)).trans (Mw.of ah (TF.own A.o9 ao) (fun k hk=>(c4 A.o9 hk).1))
 have bG:=bC.own a0 A.o9 ah ao
 have aO:=ah.aC A.cells (cT A.o9 A.cells ao)
 have bP:World.ownsRow ba B 163 2 aS ((F.bW++xs)++ [(G,I)]).length (jf ((F.bW++xs)++ [(G,I)])):=by rw [show jf ((F.bW++xs)++ [(G,I)])=jf (F.bW++xs)++ [str G,str I] from by simp [jf],List.length_append]; exact a6
 have ar:(fun w'=>Md (fun k=>j.v9.ownBlock=some k) O w') ba:=a1.trans' ah (fun _ _ h=>h)
 refine ⟨ar,?_⟩
 exact bD 21 U ab (fun _=>nc U) (fun _=>ar) (bD 22 U ab (fun _=>fa dQ U) (fun _=>ar) (bD 23 U ab (fun _=>fa oK U) (fun _=>ar) (bV 24 U ab ab (dp tQ U U (v:=aS) (dR a6) aO (by show _ < 14; omega) fun cw aI bh=>dx ab (bn (tn (bm _ _ (rg U (p (ad U U (bu aa)) (p mv (nl (tn (⟨_,aa,i+1,xs++ [(G,I)],rest,ae,{j with v9:=aS},bc,aa,((by rw [show n - (i+1)=n - i - 1 by omega]; exact E.step aa au (Gn aR a7 bR))),((by rw [List.length_append,b2]; rfl)),((by rw [← List.append_assoc]; exact bQ.yS (x:=(G,I)) A ah bP aI bh)),(bC.oB bG aO aI),(⟨by simp only [List.length_append,List.length_singleton]; omega,am.sl,am.row,am.kd,am.al⟩),(bt.trans (Mw.of aI (TF.eq (c5 aO) ao) (fun k hk=>hk ▸ A.lo.1))),U,U,U,U⟩)))))))))))))
 refine ext (te _ (te _ (be (fk (f0 U ?_)))))
 rw [show n - i=0 by omega] at E
 exact ⟨U,_,rows',av,Gr M E.done,⟨j,R',aV,ai.congr U (fun _=>rfl),ag⟩,aW⟩
theorem yF (B:Nat) (H:bw) (F:aM) (rows:List Rw) (ln:Nat) (seen:List Tx) (r:List Tx) (bs:Nat) (aP:Option Addr) (aR:Nat) (w:World) (j:St w B H F rows ln seen) (bb:Tg w bs 9 r.length (.slice aP r.length aR) (r.map str)) (cP:r.length=2) (ci:∀ x∈r,x.length≤70000):
 c8 Tryz.prog 64 (List.toArray [.pointer (some ⟨H.rb,0,none⟩),.slice aP r.length aR]) w (eW B H seen (gH H.eof F seen rows ln r) w) (eV B H (gH H.eof F seen rows ln r) w):=by
 obtain ⟨V,R,ae,M,aF⟩:=j
 have cF:=bb.bN
 have cR:(r.getD 1 []).length≤70000:=ci _ (dK aa)
 have cN:=M.lo
 have cI:=aF.len
 obtain ⟨cV,bi,bj⟩:=M.sm
 have cJ:=List.count_le_length (a:=fw) (l:=seen)
 have cK:=List.count_le_length (a:=cg) (l:=seen)
 have cS:=aF.sl
 refine fI Tryz.func64 U Tryz.ntmps64 U (sq (fun ct bG=> ?_))
 have s:(fun w'=>Wk w w') w.drew:=(Md.refl _ _).drew
 refine bS (fun w'=>Wk w w') U wide s (hp 0 U ab (fun _ _=>aB (.pointer (some ⟨H.rb,0,none⟩)) U) s (hp 1 U ab (fun _ _=>aB (.pointer (some ⟨H.rb,0,none⟩)) U) s (hp 2 U ab (fun _ _=>nc U) s (hp 3 U ab (fun _ _=>fa lX U) s (hp 4 U ab (fun w' j=>ld lK U (Wk.aG j ((a4 M.cells).trans U))) s (hp 5 U ab (fun w' j=>jy kN jU eI (bz.md (bi) j id) U U (⟨_,U⟩) (bj fw)) s (hp 6 U ab (fun _ _=>aB (.pointer (some ⟨H.rb,0,none⟩)) U) s (hp 7 U ab (fun _ _=>nc U) s (hp 8 U ab (fun _ _=>fa lX U) s (hp 9 U ab (fun w' j=>ld lK U (Wk.aG j ((a4 M.cells).trans U))) s (hp 10 U ab (fun w' j=>jy kN jU eI (bz.md (bi) j id) U U (⟨_,U⟩) (bj cg)) s (hp 11 U ab (fun _ _=>bm ((seen.count fw+seen.count cg:Nat):Int) U U (aU aa aa)) s (hp 12 U ab (fun _ _=>bp U U) s ?_)))))))))))))
 refine lY 13 U ab U (bO ed (ej H.rb ln _ 113 w.drew (Wk.aG s M.cQ) ao) U fun v20 a0 b2=> ?_) (fun c w' A aN ae=>⟨ln,113,yG (Classical.byContradiction fun h2=>by
  have h1:=List.count_eq_zero.2 (fun h=>h2 (Or.inl h))
  have h3:=List.count_eq_zero.2 (fun h=>h2 (Or.inr h))
  exact of_decide_eq_false A.2.1 aa),A.1,by rw [A.2.2]; exact Wk.mw s⟩)
 obtain ⟨rfl,co,bk⟩:=b2
 have aI:Wk w a0:=by rw [bk]; exact (Md.refl _ _).drew
 have ai:¬(fw∈seen∨cg∈seen):=by
  have cE:=of_decide_eq_true co
  rintro (h | h)
  have :=List.count_pos_iff.2 h; omega
  have :=List.count_pos_iff.2 h; omega
 have b0:=M.wk aI
 have bc:=(bb.wk aI).bN
 have b8:(fun w'=>Wk w w') a0:=by rw [bk]; exact s
 refine ⟨b8,?_⟩
 refine hn ab (tn (bG _ _ (sq (fun cu bH=>rg U (p (aB (.pointer (some ⟨H.rb,0,none⟩)) U) (p (aB (.slice aP r.length aR) U) (p (aQ bT U U aa (aw.ok (bc.2) (bL aa))) (p (ld bF U (bM.get (i:=1) bc.2 aa)) (eP U (bO oa (oZ H.rb ln (r.getD 1 []) 1024 a0 b0.cQ aa aa) U fun cX c1 b3=> ?_) (fun c w' A aN ae=>by obtain ⟨e,he,h,h2⟩:=A; exact ⟨ln,e,yH ai he,h,Wk.mw (aI.trans h2)⟩))))))))))
 obtain ⟨n,aj,rfl,ak⟩:=b3
 have cO:=rv aj
 have ak:=aI.trans ak
 refine p mv (nl (tn (bH _ _ (aC (lp (fun a1 aO az=> ∃ (i:Nat) (xs:List (List Nat)) (rows':List Rw) (aL:Nat) (E:dq) (R':dV),(i≤n)∧(eD [fq] (iY F.kind) H.eof (group [fq] (iY F.kind) H.eof n rows) xs (n - i) rows')∧(xs.length=i)∧(bQ az B H.fb H.mc {F with aliases:=F.aliases++xs} E)∧(bC az B H F R' rows' aL seen)∧(gE {F with aliases:=F.aliases++xs} rows' seen)∧(c7 B H w az)∧(aO 0= .pointer (some ⟨H.rb,0,none⟩))∧(aO 25= .int .i64 (n:Nat))∧(aO 26= .int .i64 (i:Nat))∧(n - i=a1)) _ ⟨0,[],rows,ln,V,R,aa,eD.start,U,((by rw [List.append_nil]; exact ae.wk ak)),(M.wk ak),((by rw [List.append_nil]; exact aF)),(Wk.mw ak),U,U,U,U⟩ ?_)))))
 rintro a1 aO az ⟨i,xs,rows',aL,E,R',hi,O,cq,a2,ar,Y,a5,ck,cm,cn,rfl⟩
 refine fx 0 ck (fx 25 cm (fx 26 cn (sq (fun cv bI=>rg U (p (lt U U) (nl (tn (bI _ _ (sq (fun cw bJ=>cd U (fun cb=> ?_) (fun cb=> ?_)))))))))))
 refine aH (tn (bJ _ _ (sq (fun cx bK=>aC (sq (fun cy bP=>rg U (p (aB (.pointer (some ⟨H.rb,0,none⟩)) U) (e (lM (L:= [str fq]) dC U U U U fun bv bl cG bY bx=> ?_)))))))))
 have Z:Wk az bl:=bY.md
 have a6:=a5.trans (Wk.mw Z)
 refine eP U (bO qe (qY B H F R' rows' aL seen [fq] bv 1 _ _ bl (ar.wk Z) (Tg.rz bx U) U ao (fun q ch=>(Y.row q ch).2.1)) U fun cW cr b1=> ?_) (fun c w' A aN ae=>by
  obtain ⟨h1,h2⟩:=A
  have hm:=a6.trans (c7.rb (ar.wk Z) h2)
  rcases h1 with ⟨rfl,h3⟩ | ⟨av,I,rest,rfl,h4,h3⟩
  exact ⟨_,_,nY ai aj (O.ends aa),h3,hm⟩
  exact ⟨_,_,nY ai aj (O.other aa h4),h3,hm⟩)
 obtain ⟨av,I,rest,rfl,aX,⟨bt,aJ⟩,hT15,hM15⟩:=b1
 obtain ⟨cC,n6,rfl⟩:=hT15.slice
 have a3:=(a2.wk Z).rb (ar.wk Z) hM15
 have a7:=a6.trans (c7.rb (ar.wk Z) hM15)
 have cj:I≠[]∧I.length≤70000∧∀ x∈I,x.length≤70000:=Y.row (av,I) (by simp)
 have aS:=gE.lQ Y
 have bd:=hT15.bN
 have ca:=Y.len
 simp only [List.length_cons,List.length_append] at ca
 refine p aA (nl (tn (bP _ _ (sq (fun cz bR=>rg U (p (aB (.pointer (some ⟨H.rb,0,none⟩)) U) (p mv (p (bo ea U U) (p (bp U U) (eP U (bO ed (ej H.rb av _ 111 cr aJ.cQ ao) U fun cY ax b4=> ?_) (fun c w' A aN ae=>⟨_,_,nY ai aj (O.bad aa aX (yC (by have :=of_decide_eq_false A.2.1; omega))),A.1,by rw [A.2.2]; exact a7⟩)))))))))))
 obtain ⟨rfl,cp,rfl⟩:=b4
 have bh:I.length=2:=by have :=of_decide_eq_true cp; omega
 have cM:=cj.2.2 _ (dK (d:= []) (i:=1) aa)
 refine nl (tn (bR _ _ (sq (fun cA bU=> ?_))))
 have G:(fun w'=>Wk ax w') ax.drew:=(Md.refl _ _).drew
 refine bS (fun w'=>Wk ax w') U wide G (hp 0 U ab (fun _ _=>aB (.pointer (some ⟨H.rb,0,none⟩)) U) G (hp 1 U ab (fun _ _=>nc U) G (hp 2 U ab (fun _ _=>fa dX U) G (hp 3 U ab (fun w' j=>ld dO U (Wk.aG j ((a4 aJ.cells).trans U))) G (hp 4 U ab (fun _ _=>nc U) G (hp 5 U ab (fun _ _=>fa dQ U) G (hp 6 U ab (fun _ _=>fa lV U) G (hp 7 U ab (fun w' j=>ld eu U (Wk.aG j ((a4 a3.cells).trans U))) G (hp 8 U ab (fun _ _=>mv) G (hp 9 U ab (fun _ _=>aQ bT U U aa (aw.ok (bd.2) (bL aa))) G (hp 10 U ab (fun w' j=>ld bF U (Wk.aG j (bM.get (i:=1) bd.2 aa))) G (he 11 U ab (cl sZ (u7 F.kind (I.getD 1 []) _ aF.kd aa) U fun cZ bq b5=> ?_)))))))))))))
 obtain ⟨⟨aD,rfl,aW⟩,ac⟩:=b5
 have ac:=fz ac
 have an:=a3.wk ac
 have au:=aJ.wk ac
 have a8:=a7.trans (Wk.mw ac)
 have bf:¬(E.v10.ownBlock=some H.rb):=cT an.e8 au.cells ao
 have ce:¬(E.v10.ownBlock=some H.fb):=cT an.e8 an.cells ao
 have bE:B≤ax.heap.size:=by have :=(Array.getElem?_eq_some_iff.1 aJ.cells).1; omega
 have ag:(fun w'=>Wk ax w') bq:=ac
 refine ⟨ag,?_⟩
 refine hp 12 U ab (fun _ _=>mv) ag (hp 13 U ab (fun _ _=>xt U U) ag (hp 14 U ab (fun _ _=>xt U U) ag (hp 15 U ab (fun _ _=>aA) ag (hp 16 U ab (fun _ _=>aA) ag (hn ab (tn (bU _ _ (sq (fun cB bW=>rg U (p (aB (.pointer (some ⟨H.rb,0,none⟩)) U) (p mv (eP U (bO jr (jD H.rb av ((dH F.kind (I.getD 1 [])).2:Nat) bq au.cQ) U fun c0 ay b7=> ?_) (fun c w' A aN ae=>⟨_,_,nY ai aj (O.bad aa aX (by rw [sG bh]; exact uY (by have :=A.2.1; omega))),A.1,by rw [A.2.2]; exact a8⟩)))))))))))))
 obtain ⟨rfl,aY,rfl⟩:=b7
 have aY:(dH F.kind (I.getD 1 [])).2=0:=aa
 have cc:=uX aY
 refine nl (tn (bW _ _ ?_))
 have C:(fun w'=>Md (fun k=>E.v10.ownBlock=some k) ay w') ay.drew:=(Md.refl _ _).drew
 refine dy (fun w'=>Md (fun k=>E.v10.ownBlock=some k) ay w') 18 U wide C (bD 0 U ab (fun _=>aB (.pointer (some ⟨H.rb,0,none⟩)) U) (fun _=>C) (bD 1 U ab (fun _=>nc U) (fun _=>C) (bD 2 U ab (fun _=>fa dX U) (fun _=>C) (fZ 3 U ab (fun w' j=>ld dO U (Md.aG j ((a4 au.cells).trans U) bf)) C (bD 4 U ab (fun _=>aB (.pointer (some ⟨H.rb,0,none⟩)) U) (fun _=>C) (bD 5 U ab (fun _=>nc U) (fun _=>C) (bD 6 U ab (fun _=>fa dX U) (fun _=>C) (fZ 7 U ab (fun w' j=>ld dO U (Md.aG j ((a4 au.cells).trans U) bf)) C (bD 8 U ab (fun _=>nc U) (fun _=>C) (bD 9 U ab (fun _=>fa dQ U) (fun _=>C) (bD 10 U ab (fun _=>fa kb U) (fun _=>C) (fZ 11 U ab (fun w' j=>ld kX U (Md.aG j ((a4 an.cells).trans U) ce)) C (bD 12 U ab (fun _=>mv) (fun _=>C) (gA 13 U ab (eY pq U (dR aW) fun cD cs cH bZ bA=> ?_)))))))))))))))
 have am:=fz bZ.md
 have J:=an.wk am
 have a9:=au.wk am
 have b9:=(Tg.gl (aE aW am)).mono bE
 have ba:(fun w'=>Md (fun k=>E.v10.ownBlock=some k) ay w') cs:=Md.mono am (fun _ _ h=>h.elim)
 refine ⟨ba,?_⟩
 refine gA 14 U ab (ap pq (J.e8) U (by have :=(Array.getElem?_eq_some_iff.1 a9.cells).1; omega) U (aw.dj bA) (U) (by show List.all [aD] Value.oneCell'=true; simp only [List.all_cons,List.all_nil,dR aW,Bool.and_self]) (by simp only [List.length_append]; omega) (by simp only [List.length_append]; omega) fun aZ br bg aq cU cL=> ?_)
 have bX:=(a8.trans (Wk.mw am)).trans (Mw.of aq (TF.own J.e8 ao) (fun k hk=>(c4 J.e8 hk).1))
 have b6:=bC.own a9 J.e8 aq ao
 have aV:=aq.aC J.cells (cT J.e8 J.cells ao)
 have cf:World.ownsRow br B 54 1 aZ ((F.aliases++xs)++ [(dH F.kind (I.getD 1 [])).1]).length (E.sa++ [aD]):=by rw [List.length_append]; exact bg
 have aK:(fun w'=>Md (fun k=>E.v10.ownBlock=some k) ay w') br:=ba.trans' aq (fun _ _ h=>h)
 refine ⟨aK,?_⟩
 exact bD 15 U ab (fun _=>nc U) (fun _=>aK) (bD 16 U ab (fun _=>fa dQ U) (fun _=>aK) (bD 17 U ab (fun _=>fa kb U) (fun _=>aK) (bV 18 U ab ab (dp tR U U (v:=aZ) (dR bg) aV (by show _ < 14; omega) fun c2 aT bB=>dx ab (bn (tn (bK _ _ (rg U (p (ad U U (bu aa)) (p mv (nl (tn (⟨_,aa,i+1,xs++ [(dH F.kind (I.getD 1 [])).1],rest,av,{E with v10:=aZ,sa:=E.sa++ [aD]},bt,aa,((by rw [show n - (i+1)=n - i - 1 by omega]; exact O.step aa aX (by rw [sG bh]; exact u4 aY))),((by rw [List.length_append,cq]; rfl)),((by rw [← List.append_assoc]; exact bQ.yP (x:=(dH F.kind (I.getD 1 [])).1) (vx:=aD) J b9 aq cf aT bB)),(bC.oB b6 aV aT),(⟨by simp only [List.length_append,List.length_singleton]; omega,aS.sl,aS.row,aS.kd,(by intro l ah; rw [← List.append_assoc] at ah; rcases List.mem_append.1 ah with ah | ah; exact Y.al l ah; rw [List.mem_singleton.1 ah]; exact cc)⟩),(bX.trans (Mw.of aT (TF.eq (c5 aV) ao) (fun k hk=>hk ▸ J.lo.1))),U,U,U,U⟩)))))))))))))
 refine ext (te _ (te _ (be (fk (f0 U ?_)))))
 rw [show n - i=0 by omega] at O
 exact ⟨U,_,rows',aL,yI ai aj O.done,⟨E,R',a2,ar.congr U (fun _=>rfl),Y⟩,a5⟩
end Go.Hb.ji
end
section
set_option maxRecDepth 20000
set_option maxHeartbeats 1000000
namespace Go.Hb.iW
open Go.Proofs
open Go.Hb.ff Go.Hb.fP Go.Hb.jV Go.Hb.gh Go.Hb.ji
def Nx (F:aM):Prop :=(∀ l∈F.aliases,l.length≤64)∧∀ q∈F.rules,q.next.length≤64
theorem qS {α:Type} {hd:List Tx} {rd:Nat→List Tx→Except Nat α} {eof:Nat} :∀ (n:Nat) (rows:List Rw) (r:List α×List Rw),group hd rd eof n rows= .ok r→∀ x∈r.1,∃ ln row,rd ln row= .ok x:=by
 intro n
 induction n with
 | zero=>intro rows r h; simp only [group,Except.ok.injEq] at h; subst h; intro x a; cases a
 | succ n c=>
   intro rows r h
   cases rows with
   | nil=>simp [group] at h
   | cons q rows=>
     obtain ⟨ln,row⟩:=q
     simp only [group] at h
     split at h
     · cases h
     · cases hr:rd ln row with
       | error e=>rw [hr] at h; cases h
       | ok y=>
         rw [hr] at h
         simp only at h
         cases hg:group hd rd eof n rows with
         | error e=>rw [hg] at h; cases h
         | ok i=>
           rw [hg] at h
           simp only [Except.ok.injEq] at h
           subst h
           intro x a
           rcases List.mem_cons.1 a with a | a
           · exact ⟨ln,row,by rw [a]; exact hr⟩
           · exact c rows i hg x a
theorem uZ {kind:Nat} {s:Tx} {l:List Nat} (h:iO kind s= .ok l):l.length≤64:=by
 unfold iO at h
 split at h
 · cases h
 · rename_i a
   cases h
   exact (uX (Classical.not_not.1 a)).1
theorem yD {kind ln:Nat} {row:List Tx} {l:List Nat} (h:iY kind ln row= .ok l):l.length≤64:=by
 unfold iY at h
 split at h
 · cases h
 · exact uZ h
theorem qD {kind:Nat} {al:List (List Nat)} {s:Tx} {l:List Nat} (a:∀ l∈al,l.length≤64) (h:eh kind al s= .ok l):l.length≤64:=by
 unfold eh at h
 split at h
 · exact uZ h
 · split at h
   · cases h
   · split at h
     · cases h
     · cases h
       rename_i n _ _
       rw [List.getD_eq_getElem?_getD]
       cases hg:al[n - 1]? with
       | none=>simp
       | some x=>exact a x (List.mem_of_getElem? hg)
theorem GI {kind ln:Nat} {al:List (List Nat)} {c:db} {row:List Tx} {q:eX} (i:∀ l∈al,l.length≤64) (h:iw kind al c ln row= .ok q):q.next.length≤64:=by
 unfold iw at h
 split at h
 · cases h
 · split at h
   · cases h
   · split at h
     · cases h
     · split at h
       · cases h
       · rename_i nx a
         split at h
         · cases h
         · cases h
           unfold jF at a
           split at a
           · split at a
             · cases a
             · exact qD i a
           · cases a; simp
theorem qV {eof ln:Nat} {F F':aM} {hs:List Tx} {rows rows':List Rw} {row:List Tx} (h:Nx F) (a:bB eof F hs rows ln row= .ok (F',rows')):Nx F':=by
 unfold bB at a
 split at a
 · unfold gD at a
   split at a
   · cases a
   · cases a; exact h
 · split at a
   · unfold gY at a
     split at a
     · cases a
     · split at a
       · cases a
       · cases a; exact h
   · split at a
     · unfold jL at a
       split at a
       · cases a
       · cases a; exact h
     · split at a
       · unfold jM at a
         split at a
         · cases a
         · cases a; exact h
       · split at a
         · unfold g5 at a
           split at a
           · cases a
           · split at a
             · cases a
             · cases a; exact h
         · split at a
           · unfold g6 at a
             split at a
             · cases a
             · split at a
               · cases a
               · cases a; exact h
           · split at a
             · unfold gH at a
               split at a
               · cases a
               · split at a
                 · cases a
                 · split at a
                   · cases a
                   · rename_i r j
                     cases a
                     refine ⟨fun l c=> ?_,h.2⟩
                     rcases List.mem_append.1 c with c | c
                     · exact h.1 l c
                     · obtain ⟨_,_,h2⟩:=qS _ _ _ j l c
                       exact yD h2
             · unfold eZ at a
               split at a
               · cases a
               · split at a
                 · cases a
                 · split at a
                   · cases a
                   · split at a
                     · cases a
                     · split at a
                       · cases a
                       · rename_i r j
                         cases a
                         refine ⟨h.1,fun q i=> ?_⟩
                         rcases List.mem_append.1 i with i | i
                         · exact h.2 q i
                         · obtain ⟨_,_,h2⟩:=qS _ _ _ j q i
                           exact GI h.1 h2
theorem DI {eof ln:Nat} {F F':aM} {hs:List Tx} {rows rows':List Rw} {row:List Tx} (c:row.getD 0 []∉dU) (a:bB eof F hs rows ln row= .ok (F',rows')):F'.sp=F.sp:=by
 unfold bB at a
 rw [if_neg c] at a
 unfold gY jL jM g5 g6 gH eZ at a
 repeat' split at a
 all_goals first
  | (cases a; done)
  | (cases a; rfl)
theorem vm {eof ln:Nat} {F F':aM} {seen:List Tx} {rows rows':List Rw} {row:List Tx} (h:fR F seen) (c:bB eof F seen rows ln row= .ok (F',rows')):fR F' (seen++ [row.getD 0 []]):=by
 intro k hk j
 rw [List.mem_append,List.mem_singleton] at j
 have q:k∉seen:=fun h=>j (.inl h)
 have s:k≠row.getD 0 []:=fun h=>j (.inr h)
 by_cases i:row.getD 0 []∈dU
 · unfold bB at c
   rw [if_pos i] at c
   unfold gD at c
   split at c
   · cases c
   · cases c
     show (F.sp.set (dU.idxOf (row.getD 0 [])) _).getD (dU.idxOf k) 0=0
     rw [List.getD_eq_getElem?_getD,List.getElem?_set,if_neg,← List.getD_eq_getElem?_getD]
     · exact h k hk q
     · intro he
       have p:∀ a∈dU,dU.getD (dU.idxOf a) []=a:=ao
       have h1:=p _ i
       have h2:=p _ hk
       rw [he] at h1
       exact s (h2.symm.trans h1)
 · rw [DI i c]; exact h k hk q
end Go.Hb.iW
end
section
set_option maxRecDepth 20000
set_option maxHeartbeats 1000000
namespace Go.Hb.kO
open Go.Hb.c6
open Go.Proofs
open Go.Hb.ff Go.Hb.fP Go.Hb.jV Go.Hb.gh Go.Hb.ji Go.Hb.jZ Go.Hb.iG Go.Hb.kS Go.Hb.gu Go.Hb.lD Go.Hb.mz Go.Hb.gP Go.Hb.gG
structure jj (w:World) (B fb:Nat) (mc:Nat) (F:aM) (V:dq):Prop where
 cells:w.heap[fb]? =some (.cells (jx F V mc).toArray 89 (0,0))
 o9:World.ownsRow w B 163 2 V.v9 F.bW.length (jf F.bW)
 e8:World.ownsRow w B 54 1 V.v10 F.aliases.length V.sa
 al:bX w B 71 V.sa F.aliases
 eB:World.ownsRow w B 157 5 V.v11 F.bf.length (iM F.bf)
 dY:World.ownsRow w B 155 7 V.dG F.rules.length (fc (F.rules.zip V.rn))
 nx:bX w B 71 V.rn (F.rules.map (·.next))
 lo:B≤fb∧B≤mc
 gC:F.sp.length=5
theorem jj.md {G:Nat→Prop} {w w':World} {B fb mc:Nat} {F:aM} {V:dq} (h:jj w B fb mc F V) (hm:Md G w w') {L:List Nat} (a:TF w L G) (c:(L.contains 91 || L.contains 165 || L.contains 56 || L.contains 73 || L.contains 159 || L.contains 157)=false):jj w' B fb mc F V:=by
 simp only [Bool.or_eq_false_iff] at c
 obtain ⟨⟨⟨⟨⟨h1,h2⟩,h3⟩,h4⟩,h5⟩,h6⟩:=c
 have i:∀ k,G k→∀ cur z,w.heap[k]?≠some (.cells cur 71 z):=fun k hk cur z j=>a.no (c5 j) h4 hk
 exact ⟨hm.iK a h.cells h1,cJ h.o9 hm a h2,cJ h.e8 hm a h3,h.al.md hm i,cJ h.eB hm a h5,cJ h.dY hm a h6,h.nx.md hm i,h.lo,h.gC⟩
theorem jj.wk {w w':World} {B fb mc:Nat} {F:aM} {V:dq} (h:jj w B fb mc F V) (hm:Wk w w'):jj w' B fb mc F V:=h.md (L:= []) hm (fun _ hk=>hk.elim) rfl
theorem CC {w:World} {B fb mc:Nat} {F:aM} {V:dq} (h:bQ w B fb mc F V):jj w B fb mc F V:=⟨h.cells,h.o9,h.e8,h.al,h.eB,h.dY,h.nx,h.lo,h.gC⟩
theorem jj.yQ {w q C:World} {B fb mc:Nat} {F:aM} {V:dq} {v:Value} {x:db} {f:Value→Option Value} (h:jj w B fb mc F V) (p:bz w.heap mc (kg .u16) f) (M:∀ y:Nat,f (aI y)=((F.bf++ [x]).findIdx? fun c=>decide (c.flag=y)).map fun i:Nat=>Value.int .i64 i) (hm:Md (fun k=>V.v11.ownBlock=some k) w q) (I:World.ownsRow q B 157 5 v (F.bf++ [x]).length (iM (F.bf++ [x]))) (a:Md (fun k=>k=fb) q C) (J:C.heap[fb]? =some (.cells (jx {F with bf:=F.bf++ [x]} {V with v11:=v} mc).toArray 89 (0,0))):bQ C B fb mc {F with bf:=F.bf++ [x]} {V with v11:=v} :=by
 have j:TF w [159] (fun k=>V.v11.ownBlock=some k):=TF.own h.eB ao
 have A:=hm.iK j h.cells ao
 have s:TF q [91] (fun k=>k=fb):=TF.eq (c5 A) ao
 have E:∀ k,V.v11.ownBlock=some k→∀ cur z,w.heap[k]?≠some (.cells cur 71 z):=e9 h.eB ao
 have G:∀ k,k=fb→∀ cur z,q.heap[k]?≠some (.cells cur 71 z):=eG A ao
 have O:=cH (p.md hm (j.no (cH p) ao))
 exact ⟨J,cJ (cJ h.o9 hm j ao) a s ao,cJ (cJ h.e8 hm j ao) a s ao,(h.al.md hm E).md a G,bK I a (fun k hk p=>cT I A ao (p ▸ hk)),cJ (cJ h.dY hm j ao) a s ao,(h.nx.md hm E).md a G,⟨f,(p.md hm (j.no (cH p) ao)).md a (s.no O ao),M⟩,h.lo,h.gC⟩
theorem bC.Fc {w j s:World} {B:Nat} {H:bw} {F F':aM} {R:dV} {rows:List Rw} {ln:Nat} {seen:List Tx} {v:Value} {q:eX} (h:bC w B H F R rows ln seen) (hm:Md (fun k=>R.vn.ownBlock=some k) w j) (I:World.ownsRow j B 3 1 v (F.rules++ [q]).length ((F.rules++ [q]).map fun r=>Value.int .i64 (r.line:Nat))) (a:Md (fun k=>k=H.rb) j s) (J:s.heap[H.rb]? =some (.cells (nk H {R with vn:=v} ln).toArray 92 (0,0))) (U:F'.rules=F.rules++ [q]) (hd:∀ x,c9 F' x=c9 F x):bC s B H F' {R with vn:=v} rows ln seen:=by
 have p:TF w [5] (fun k=>R.vn.ownBlock=some k):=TF.own h.on ao
 have c:=hm.iK p h.cells ao
 have A:TF j [94] (fun k=>k=H.rb):=TF.eq (c5 c) ao
 obtain ⟨f,i,M⟩:=h.sm
 obtain ⟨g,E,O⟩:=h.tm
 have C:=i.md hm (p.no (cH i) ao)
 have G:=E.md hm (p.no (cH E) ao)
 exact ⟨J,(h.rws.md hm (e9 h.on ao)).md a (eG c ao),(h.rt.md hm (e9 h.on ao)).md a (eG c ao),⟨f,C.md a (A.no (cH C) ao),M⟩,⟨g,G.md a (A.no (cH G) ao),fun x V=>by rw [hd]; exact O x V⟩,by rw [U]; exact bK I a (fun k hk i=>cT I c ao (i ▸ hk)),h.lo,h.ne⟩
theorem CI {cs:List db} {x:Nat} (h:(dP cs x).isSome=false):cs.findIdx? (fun c=>decide (c.flag=x))=none:=by
 rw [List.findIdx?_eq_none_iff]
 unfold dP at h
 rw [Option.isSome_eq_false_iff,Option.isNone_iff_eq_none,List.find?_eq_none] at h
 intro c a
 simpa using h c a
theorem BU {F:aM} {c:db} (y:Nat):c9 {F with bf:=F.bf++ [c]} y=(decide (y=c.flag) || c9 F y):=by
 have h1:(dP (F.bf++ [c]) y).isSome=((dP F.bf y).isSome || decide (y=c.flag)):=by
  unfold dP
  rw [List.find?_append,Option.isSome_or]
  congr 1
  by_cases h:c.flag=y
  · simp [h]
  · simp [h,Ne.symm h]
 unfold c9
 show (decide (y∈F.sp) || (dP (F.bf++ [c]) y).isSome)=_
 rw [h1]
 cases decide (y∈F.sp) <;> cases (dP F.bf y).isSome <;> cases decide (y=c.flag) <;> rfl
theorem A2 {F:aM} {c:db} {f:Value→Option Value} (hd:c9 F c.flag=false) (a:∀ x:Nat,f (aI x)=(F.bf.findIdx? fun c=>decide (c.flag=x)).map fun i:Nat=>Value.int .i64 i) (y:Nat):a9 f (aI c.flag) (.int .i64 (F.bf.length:Nat)) (aI y)=((F.bf++ [c]).findIdx? fun c=>decide (c.flag=y)).map fun i:Nat=>Value.int .i64 i:=by
 unfold c9 at hd
 rw [Bool.or_eq_false_iff] at hd
 rw [List.findIdx?_append]
 by_cases h:y=c.flag
 · subst h
   rw [ni,CI hd.2]
   simp
 · rw [l8 (fun h2=>h (xO h2)),a y]
   cases F.bf.findIdx? fun c=>decide (c.flag=y) <;> simp [Ne.symm h]
theorem tG {eof ln e:Nat} {F:aM} {rows:List Rw} {r:List Tx} (h:fp F (r.getD 1 [])= .error e):eZ eof F rows ln r= .error (ln,e):=by unfold eZ; rw [h]
theorem tH {eof ln x:Nat} {F:aM} {rows:List Rw} {r:List Tx} (h:fp F (r.getD 1 [])= .ok x) (h1:r.getD 2 []≠[89]) (h2:r.getD 2 []≠[78]):eZ eof F rows ln r= .error (ln,114):=by unfold eZ; rw [h]; exact if_pos ⟨h1,h2⟩
theorem AE {eof ln x e:Nat} {F:aM} {rows:List Rw} {r:List Tx} (h:fp F (r.getD 1 [])= .ok x) (h1:r.getD 2 []= [89]∨r.getD 2 []= [78]) (h2:cR (r.getD 3 []) 1024= .error e):eZ eof F rows ln r= .error (ln,e):=by
 unfold eZ; rw [h]; simp only; rw [if_neg (fun h3=>h1.elim h3.1 h3.2),h2]
theorem AF {eof ln x n:Nat} {F:aM} {rows:List Rw} {r:List Tx} (h:fp F (r.getD 1 [])= .ok x) (h1:r.getD 2 []= [89]∨r.getD 2 []= [78]) (h2:cR (r.getD 3 []) 1024= .ok n) (h3:1024 < F.rules.length+n):eZ eof F rows ln r= .error (ln,117):=by
 unfold eZ; rw [h]; simp only; rw [if_neg (fun h3=>h1.elim h3.1 h3.2),h2]; simp only; rw [if_pos h3]
theorem qh {eof ln x n:Nat} {F:aM} {rows:List Rw} {r:List Tx} {e:Nat×Nat} (h:fp F (r.getD 1 [])= .ok x) (h1:r.getD 2 []= [89]∨r.getD 2 []= [78]) (h2:cR (r.getD 3 []) 1024= .ok n) (h3:¬1024 < F.rules.length+n) (h4:group [r.getD 0 [],r.getD 1 []] (iw F.kind F.aliases (⟨x,(if r.getD 0 []=cg then 2 else 1:Nat),(decide (r.getD 2 []= [89])),F.rules.length,n⟩:db)) eof n rows= .error e):eZ eof F rows ln r= .error e:=by
 unfold eZ; rw [h]; simp only; rw [if_neg (fun h3=>h1.elim h3.1 h3.2),h2]; simp only; rw [if_neg h3,h4]
theorem AG {eof ln x n:Nat} {F:aM} {rows:List Rw} {r:List Tx} {q:List eX×List Rw} (h:fp F (r.getD 1 [])= .ok x) (h1:r.getD 2 []= [89]∨r.getD 2 []= [78]) (h2:cR (r.getD 3 []) 1024= .ok n) (h3:¬1024 < F.rules.length+n) (h4:group [r.getD 0 [],r.getD 1 []] (iw F.kind F.aliases (⟨x,(if r.getD 0 []=cg then 2 else 1:Nat),(decide (r.getD 2 []= [89])),F.rules.length,n⟩:db)) eof n rows= .ok q):eZ eof F rows ln r= .ok ({F with bf:=F.bf++ [(⟨x,(if r.getD 0 []=cg then 2 else 1:Nat),(decide (r.getD 2 []= [89])),F.rules.length,n⟩:db)],rules:=F.rules++q.1},q.2):=by
 unfold eZ; rw [h]; simp only; rw [if_neg (fun h3=>h1.elim h3.1 h3.2),h2]; simp only; rw [if_neg h3,h4]
theorem tI (B:Nat) (H:bw) (F:aM) (rows:List Rw) (ln:Nat) (seen:List Tx) (r:List Tx) (cK:Nat) (M:Option Addr) (O:Nat) (w:World) (a:St w B H F rows ln seen) (dc:Tg w cK 9 r.length (.slice M r.length O) (r.map str)) (gq:r.length=4) (cA:∀ x∈r,x.length≤70000) (gd:F.bW.length+F.aliases.length+F.bf.length+F.rules.length+rows.length < 70000):
 c8 Tryz.prog 65 (List.toArray [.pointer (some ⟨H.rb,0,none⟩),.slice M r.length O]) w (eW B H seen (eZ H.eof F rows ln r) w) (eV B H (eZ H.eof F rows ln r) w):=by
 obtain ⟨V,R,I,am,aE⟩:=a
 have ae:=dc.bN
 have gr:(r.getD 1 []).length≤70000:=cA _ (dK aa)
 have gt:(r.getD 2 []).length≤70000:=cA _ (dK aa)
 have gu:(r.getD 3 []).length≤70000:=cA _ (dK aa)
 have gn:=am.lo
 have gi:=aE.len
 have gv:=(Array.getElem?_eq_some_iff.1 am.cells).1
 obtain ⟨dM,iL,fL⟩:=cE I.dY
 obtain ⟨cL,fH,dz⟩:=cE I.eB
 have e6:Hb.aG w.heap H.fb 12=some (.slice dM F.rules.length iL):=by rw [← fL]; exact (a4 I.cells).trans rfl
 have gj:Hb.aG w.heap H.fb 11=some (.slice cL F.bf.length fH):=by rw [← dz]; exact (a4 I.cells).trans rfl
 have fe:∀ b,w.heap.size≤b→¬(V.v11.ownBlock=some b):=fun b gc h=>by have :=c4 I.eB h; omega
 obtain ⟨gD,fK,dv⟩:=am.tm
 refine fI Tryz.func65 U Tryz.ntmps65 U ?_
 refine dA (fun b9 cJ=> ∃ (x G:Nat),(fp F (r.getD 1 [])= .ok x)∧(x≠0)∧(c9 F x=false)∧(w.heap.size≤G)∧(cJ.heap[G]? =some (.cells [aI x,.int .i64 (1:Nat),.bool false,.int .i64 (F.rules.length:Nat),.int .i64 (0:Nat)].toArray 157 (0,0)))∧(Wk w cJ)∧(b9 0= .pointer (some ⟨H.rb,0,none⟩))∧(b9 1= .slice M r.length O)∧(b9 4= .pointer (some ⟨G,0,none⟩))) ?_ ?_
 have A:(fun w'=>Wk w w') w.drew:=(Md.refl _ _).drew
 refine bS (fun w'=>Wk w w') U wide A (hp 0 U ab (fun _ _=>aB (.pointer (some ⟨H.rb,0,none⟩)) U) A (hp 1 U ab (fun _ _=>aB (.slice M r.length O) U) A (hp 2 U ab (fun _ _=>aQ bT U U aa (aw.ok (ae.2) (bL aa))) A (hp 3 U ab (fun w' a=>ld bF U (Wk.aG a (bM.get (i:=1) ae.2 aa))) A (hp 5 U ab (fun _ _=>aB (.pointer (some ⟨H.rb,0,none⟩)) U) A (hp 6 U ab (fun _ _=>nc U) A (hp 7 U ab (fun _ _=>fa dX U) A (hp 8 U ab (fun w' a=>ld dO U (Wk.aG a ((a4 am.cells).trans U))) A (hp 9 U ab (fun _ _=>nc U) A (hp 10 U ab (fun _ _=>fa dQ U) A (hp 11 U ab (fun _ _=>fa ke U) A (hp 12 U ab (fun w' a=>ld kY U (Wk.aG a (e6))) A (hp 13 U ab (fun _ _=>bo pF U U) A (DF (Pn:=fun c w'=> ∃ e,fp F (r.getD 1 [])= .error e∧c=eO 25 ln (e:Nat)∧Wk w.drew w') 4 15 U U ab U U ?_ (fun c w' s aS I=>by obtain ⟨e,he,h,h2⟩:=s; exact ⟨ln,e,tG he,h,Wk.mw (Md.trans A h2)⟩) ?_))))))))))))))
 refine (bO qd (qP B H F V R rows ln seen (r.getD 1 []) w.drew (I.wk A) (am.wk A) aE.kd aa) U fun v10 b6 bi=> ?_)
 obtain ⟨x,ag,bH,rfl,aR,bP⟩:=bi
 have an:(fun w'=>Wk w w') b6:=Md.trans A bP
 refine ⟨an,?_⟩
 refine hp 14 U ab (fun _ _=>bU (ps:= [(0,aI x),(1,.int .i64 (1:Nat)),(3,.int .i64 (F.rules.length:Nat))]) (L:= [aI x,.int .i64 (1:Nat),.bool false,.int .i64 (F.rules.length:Nat),.int .i64 0]) rW U (U)) an (he 15 U ab (fC nH fun G b8 e2 cl cc=> ?_))
 have ay:(fun w'=>Wk w w') b8:=Md.trans an cl.md
 refine ⟨ay,?_⟩
 refine he 16 U ab (fy lN U U U U cc ao fun cG cj ce=> ?_)
 have br:(fun w'=>Wk w w') cG:=Md.trans' ay cj (fun k hk h=>by have h1:=Md.size an; have h2:=Md.size A; omega)
 refine ⟨br,?_⟩
 exact hn ab (tn (⟨x,G,ag,bH,aR,((by have h1:=Md.size an; have h2:=Md.size A; omega)),ce,br,U,U,U⟩))
 refine (fC nH fun G b8 e2 cl cc=> ?_)
 have ay:(fun w'=>Wk w w') b8:=Md.trans A cl.md
 refine ⟨ay,?_⟩
 refine lY 4 U ab U (bO qd (qP B H F V R rows ln seen (r.getD 1 []) b8 (I.wk ay) (am.wk ay) aE.kd aa) U fun v10 b6 bi=> ?_) (fun c w' s aS I=>by obtain ⟨e,he,h,h2⟩:=s; exact ⟨ln,e,tG he,h,Wk.mw (Md.trans ay h2)⟩)
 obtain ⟨x,ag,bH,rfl,aR,bP⟩:=bi
 have an:(fun w'=>Wk w w') b6:=Md.trans ay bP
 refine ⟨an,?_⟩
 refine hp 14 U ab (fun _ _=>bU (ps:= [(0,aI x),(1,.int .i64 (1:Nat)),(3,.int .i64 (F.rules.length:Nat))]) (L:= [aI x,.int .i64 (1:Nat),.bool false,.int .i64 (F.rules.length:Nat),.int .i64 0]) rW U (U)) an (he 16 U ab (fy lN U U U U (Wk.aC bP cc) ao fun cG cj ce=> ?_))
 have br:(fun w'=>Wk w w') cG:=Md.trans' an cj (fun k hk h=>by have h1:=Md.size an; have h2:=Md.size A; omega)
 refine ⟨br,?_⟩
 exact hn ab (tn (⟨x,G,ag,bH,aR,((by have h1:=Md.size an; have h2:=Md.size A; omega)),ce,br,U,U,U⟩))
 rintro b9 cJ ⟨x,G,ag,bH,aR,fj,dt,bK,fo,fq,fr⟩
 refine fx 0 fo (fx 1 fq (fx 4 fr ?_))
 refine dA (fun ca a0=>(a0.heap[G]? =some (.cells [aI x,.int .i64 ((if r.getD 0 []=cg then 2 else 1:Nat):Nat),.bool false,.int .i64 (F.rules.length:Nat),.int .i64 (0:Nat)].toArray 157 (0,0)))∧(Wk w a0)∧(ca 0= .pointer (some ⟨H.rb,0,none⟩))∧(ca 1= .slice M r.length O)∧(ca 4= .pointer (some ⟨G,0,none⟩))) ?_ ?_
 refine sq (fun dL ci=>rg U (p (aB (.slice M r.length O) U) (p (aQ bT U U aa (aw.ok (aw.wk ae.2 bK) (bL aa))) (p (ld bF U (bM.get (i:=0) (aw.wk ae.2 bK) aa)) (p (fJ U U) (nl (tn (ci _ _ (cd U (fun cu=> ?_) (fun cu=> ?_))))))))))
 exact rg U (p (fa oJ U) (e (dp ju U U (v:= .int .i64 (2:Nat)) U dt (by show _ < 5; decide) fun gK ek dZ=>nl (tn (⟨((by rw [if_pos (show r.getD 0 []=cg from cu)]; exact dZ)),((bK.trans' ek (fun k hk h=>by omega))),U,U,U⟩)))))
 exact aH (tn (⟨((by rw [if_neg (show ¬r.getD 0 []=cg from cu)]; exact dt)),bK,U,U,U⟩))
 rintro ca a0 ⟨fi,aj,fs,ft,fu⟩
 refine fx 0 fs (fx 1 ft (fx 4 fu ?_))
 refine dA (fun cb dJ=>(r.getD 2 []= [89]∨r.getD 2 []= [78])∧(dJ=a0)∧(cb 0= .pointer (some ⟨H.rb,0,none⟩))∧(cb 1= .slice M r.length O)∧(cb 4= .pointer (some ⟨G,0,none⟩))) ?_ ?_
 refine rg U (p (aB (.pointer (some ⟨H.rb,0,none⟩)) U) (p (aB (.slice M r.length O) U) (p (aQ bT U U aa (aw.ok (aw.wk ae.2 aj) (bL aa))) (p (ld bF U (bM.get (i:=2) (aw.wk ae.2 aj) aa)) (p (fJ U U) (p mv (gs (t:=31) U (fun b1=> ?_) (fun b1=> ?_))))))))
 refine sk U U U U (sk U U U U (sk U U U U (sk U U U U (p (bE U) (eP U (bO ed (ej H.rb ln _ 114 a0 (Wk.aG aj am.cQ) ao) U fun fQ fT cn=> ?_) (fun c w' s aS I=>by first | exact absurd s.2.1 ao | exact ⟨ln,114,tH ag b1 (of_decide_eq_false s.2.1),s.1,by rw [s.2.2]; exact Wk.mw aj⟩))))))
 obtain ⟨rfl,dB,rfl⟩:=cn
 exact nl (tn (⟨(.inl b1),U,U,U,U⟩))
 refine pg U U U (aB (.slice M r.length O) U) (pg U U U (aQ bT U U aa (aw.ok (aw.wk ae.2 aj) (bL aa))) (pg U U U (ld bF U (bM.get (i:=2) (aw.wk ae.2 aj) aa)) (pg U U U (fJ U U) (p (bj U) (eP U (bO ed (ej H.rb ln _ 114 a0 (Wk.aG aj am.cQ) ao) U fun fQ fT cn=> ?_) (fun c w' s aS I=>by first | exact absurd s.2.1 ao | exact ⟨ln,114,tH ag b1 (of_decide_eq_false s.2.1),s.1,by rw [s.2.2]; exact Wk.mw aj⟩))))))
 obtain ⟨rfl,dB,rfl⟩:=cn
 exact nl (tn (⟨(.inr (of_decide_eq_true dB)),U,U,U,U⟩))
 rintro cb dJ ⟨aX,fM,fv,fw,fA⟩
 refine fx 0 fv (fx 1 fw (fx 4 fA ?_))
 subst fM
 refine sq (fun dL ci=>rg U (p (aB (.slice M r.length O) U) (p (aQ bT U U aa (aw.ok (aw.wk ae.2 aj) (bL aa))) (p (ld bF U (bM.get (i:=2) (aw.wk ae.2 aj) aa)) (p (fJ U U) (p (fa uS U) (e (dp tO U U (v:= .bool (decide (r.getD 2 []= [89]))) U fi (by show _ < 5; decide) fun fU el d0=> ?_))))))))
 have bb:=aj.trans' el (fun k hk h=>by omega)
 refine nl (tn (ci _ _ (sq (fun f1 ea=>rg U (p (aB (.pointer (some ⟨H.rb,0,none⟩)) U) (p (aB (.slice M r.length O) U) (p (aQ bT U U aa (aw.ok (aw.wk ae.2 bb) (bL aa))) (p (ld bF U (bM.get (i:=3) (aw.wk ae.2 bb) aa)) (eP U (bO oa (oZ H.rb ln (r.getD 3 []) 1024 fU (Wk.aG bb am.cQ) aa aa) U fun gH gJ eI=> ?_) (fun c w' s aS I=>by obtain ⟨e,he,h,h2⟩:=s; exact ⟨ln,e,AE ag aX he,h,Wk.mw (bb.trans h2)⟩))))))))))
 obtain ⟨n,aW,rfl,cN⟩:=eI
 have gp:=rv aW
 refine p (fa qK U) (e (dp ju U U (v:= .int .i64 (n:Nat)) U (Wk.aC cN d0) (by show _ < 5; decide) fun dH en d1=> ?_))
 have aJ:=(bb.trans cN).trans' en (fun k hk h=>by omega)
 have bv:dH.heap[G]? =some (.cells [aI x,.int .i64 ((if r.getD 0 []=cg then 2 else 1:Nat):Nat),.bool (decide (r.getD 2 []= [89])),.int .i64 (F.rules.length:Nat),.int .i64 (n:Nat)].toArray 157 (0,0)):=d1
 refine nl (tn (ea _ _ (sq (fun f2 eb=>rg U (p (aB (.pointer (some ⟨H.rb,0,none⟩)) U) (p (fa C5 U) (p (ld eu U ((a4 bv).trans U)) (p (fa qK U) (p (ld eu U ((a4 bv).trans U)) (p (bm ((F.rules.length+n:Nat):Int) U U (aU aa aa)) (p (le U U) (eP U (bO ed (ej H.rb ln _ 117 dH (Wk.aG aJ am.cQ) ao) U fun gI cI eJ=> ?_) (fun c w' s aS I=>⟨ln,117,AF ag aX aW (by have :=of_decide_eq_false s.2.1; omega),s.1,by rw [s.2.2]; exact Wk.mw aJ⟩)))))))))))))
 obtain ⟨rfl,fN,rfl⟩:=eJ
 have bJ:¬1024 < F.rules.length+n:=by have :=of_decide_eq_true fN; omega
 have bX:=am.wk aJ
 have d4:=I.wk aJ
 have b2:=fK.wk aJ
 refine nl (tn (eb _ _ (sq (fun f3 ec=> ?_))))
 have ar:(fun w'=>Wk cI w') cI.drew:=(Md.refl _ _).drew
 refine dy (fun w'=>Wk cI w') 8 U wide ar (lq 0 U ab (fun _ _=>aB (.pointer (some ⟨H.rb,0,none⟩)) U) ar (lq 1 U ab (fun _ _=>nc U) ar (lq 2 U ab (fun _ _=>fa qM U) ar (lq 3 U ab (fun w' a=>ld mD U (Wk.aG a ((a4 bX.cells).trans U))) ar (lq 4 U ab (fun _ _=>fa qJ U) ar (lq 5 U ab (fun w' a=>ld bq U (Wk.aG a ((a4 bv).trans U))) ar (lq 6 U ab (fun w' a=>jy dD jU lj (bz.md (b2) a id) U U (⟨_,U⟩) (show _=Value.int .i64 0 from (dv x bH).trans (by rw [aR]; rfl))) ar (lq 7 U ab (fun _ _=>bm ((1:Nat):Int) U U (aU aa aa)) ar (bV 8 U ab ab (ml dD lj (b2.wk ar) U U U (⟨_,U⟩) fun a1 em ez=> ?_))))))))))
 have bg:=fz em
 have bp:bC a1 B H {F with bf:=F.bf++ [(⟨x,(if r.getD 0 []=cg then 2 else 1:Nat),(decide (r.getD 2 []= [89])),F.rules.length,n⟩:db)]} R rows ln seen:=bX.nb bg ez rfl (xI aR dv (fun y _=>BU y))
 have bc:=d4.nb bX bg
 have dl:=bg.aC bv (fun h=>b2.ki (h ▸ bv))
 have eT:=(dc.wk aJ).md bg (fun k hk cur z cx=>by subst hk; exact b2.ki cx)
 have et:=(Wk.mw aJ).trans (c7.mt bX bg)
 obtain ⟨cf,cv,e7⟩:=bc.cm
 have e5:Hb.aG a1.heap H.fb 11=some (.slice cL F.bf.length fH):=by rw [← dz]; exact (a4 bc.cells).trans rfl
 refine dx ab (tn (ec _ _ (sq (fun f4 ee=> ?_))))
 have C:(fun w'=>Wk a1 w') a1.drew:=(Md.refl _ _).drew
 refine dy (fun w'=>Wk a1 w') 18 U wide C (lq 0 U ab (fun _ _=>aB (.pointer (some ⟨H.rb,0,none⟩)) U) C (lq 1 U ab (fun _ _=>nc U) C (lq 2 U ab (fun _ _=>fa dX U) C (lq 3 U ab (fun w' a=>ld dO U (Wk.aG a ((a4 bp.cells).trans U))) C (lq 4 U ab (fun _ _=>nc U) C (lq 5 U ab (fun _ _=>fa uU U) C (lq 6 U ab (fun w' a=>ld mD U (Wk.aG a ((a4 bc.cells).trans U))) C (lq 7 U ab (fun _ _=>fa qJ U) C (lq 8 U ab (fun w' a=>ld bq U (Wk.aG a ((a4 dl).trans U))) C (lq 9 U ab (fun _ _=>aB (.pointer (some ⟨H.rb,0,none⟩)) U) C (lq 10 U ab (fun _ _=>nc U) C (lq 11 U ab (fun _ _=>fa dX U) C (lq 12 U ab (fun w' a=>ld dO U (Wk.aG a ((a4 bp.cells).trans U))) C (lq 13 U ab (fun _ _=>nc U) C (lq 14 U ab (fun _ _=>fa dQ U) C ?_)))))))))))))))
 refine lq 15 U ab (fun _ _=>fa lW U) C (lq 16 U ab (fun w' a=>ld nX U (Wk.aG a (e5))) C (lq 17 U ab (fun _ _=>bo xR U U) C (bV 18 U ab ab (ml dD lj (cv.wk C) U U U (⟨_,U⟩) fun a2 eo eA=> ?_))))
 have eC:bz a2.heap H.mc (kg .u16) (a9 cf (aI x) (.int .i64 (F.bf.length:Nat))):=eA
 have bh:=fz eo
 have cp:TF a1 [1] (fun k=>k=H.mc):=TF.eq (cH cv) ao
 have bt:=(CC bc).md (L:= [1]) bh cp ao
 have bY:=bp.md (L:= [1]) bh cp ao bp.ne.2.1 bp.ne.2.2
 have dg:=bh.iK cp dl ao
 have eU:=eT.md bh (fun k hk cur z cx=>by subst hk; exact cv.ki cx)
 have ew:=et.trans (bh.mono (fun k _ hk=>⟨hk ▸ bc.lo.2,.inr (.inr (.inl hk))⟩))
 have dm:=fe G fj
 have bG:¬(V.v11.ownBlock=some H.rb):=cT bt.eB bY.cells ao
 have cy:¬(V.v11.ownBlock=some H.fb):=cT bt.eB bt.cells ao
 refine dx ab (tn (ee _ _ (sq (fun f5 ef=> ?_))))
 have Y:(fun w'=>Md (fun k=>V.v11.ownBlock=some k) a2 w') a2.drew:=(Md.refl _ _).drew
 refine dy (fun w'=>Md (fun k=>V.v11.ownBlock=some k) a2 w') 18 U wide Y (bD 0 U ab (fun _=>aB (.pointer (some ⟨H.rb,0,none⟩)) U) (fun _=>Y) (bD 1 U ab (fun _=>nc U) (fun _=>Y) (bD 2 U ab (fun _=>fa dX U) (fun _=>Y) (fZ 3 U ab (fun w' a=>ld dO U (Md.aG a ((a4 bY.cells).trans U) bG)) Y (bD 4 U ab (fun _=>aB (.pointer (some ⟨H.rb,0,none⟩)) U) (fun _=>Y) (bD 5 U ab (fun _=>nc U) (fun _=>Y) (bD 6 U ab (fun _=>fa dX U) (fun _=>Y) (fZ 7 U ab (fun w' a=>ld dO U (Md.aG a ((a4 bY.cells).trans U) bG)) Y (bD 8 U ab (fun _=>nc U) (fun _=>Y) (bD 9 U ab (fun _=>fa dQ U) (fun _=>Y) (bD 10 U ab (fun _=>fa lW U) (fun _=>Y) (fZ 11 U ab (fun w' a=>ld nX U (Md.aG a ((a4 bt.cells).trans U) cy)) Y (fZ 12 U ab (fun w' a=>cC mA U (U) (fun j e8=>bl.bI ⟨_,Md.aC a dg dm⟩ j)) Y (gA 13 U ab (j4 pw U U U fun gb fV gh cX d2=> ?_)))))))))))))))
 have aT:=fz cX.md
 have au:=bt.wk aT
 have cZ:=bY.wk aT
 have gy:=(Array.getElem?_eq_some_iff.1 cZ.cells).1
 have da:(fun w'=>Md (fun k=>V.v11.ownBlock=some k) a2 w') fV:=Y.trans' cX.md (fun _ _ h=>h.elim)
 refine ⟨da,?_⟩
 refine gA 14 U ab (ap pw (au.eB) U aa U (aw.dj d2) (U) (U) aa aa fun cD dI ds aO gC gm=> ?_)
 have ex:=(ew.trans (Wk.mw aT)).trans (Mw.of aO (TF.own au.eB ao) (fun k hk=>(c4 au.eB hk).1))
 have bi:=bC.own cZ au.eB aO ao
 have bx:=aO.aC au.cells (cT au.eB au.cells ao)
 have cq:=aO.aC (Wk.aC aT dg) dm
 have eL:=(eU.wk aT).md aO (e9 au.eB ao)
 have fh:World.ownsRow dI B 157 5 cD (F.bf++ [(⟨x,(if r.getD 0 []=cg then 2 else 1:Nat),(decide (r.getD 2 []= [89])),F.rules.length,n⟩:db)]).length (iM (F.bf++ [(⟨x,(if r.getD 0 []=cg then 2 else 1:Nat),(decide (r.getD 2 []= [89])),F.rules.length,n⟩:db)])):=by rw [show iM (F.bf++ [(⟨x,(if r.getD 0 []=cg then 2 else 1:Nat),(decide (r.getD 2 []= [89])),F.rules.length,n⟩:db)])=iM F.bf++j7 (⟨x,(if r.getD 0 []=cg then 2 else 1:Nat),(decide (r.getD 2 []= [89])),F.rules.length,n⟩:db) from by simp [iM],List.length_append]; exact ds
 have b0:(fun w'=>Md (fun k=>V.v11.ownBlock=some k) a2 w') dI:=da.trans' aO (fun _ _ h=>h)
 refine ⟨b0,?_⟩
 refine bD 15 U ab (fun _=>nc U) (fun _=>b0) (bD 16 U ab (fun _=>fa dQ U) (fun _=>b0) (bD 17 U ab (fun _=>fa lW U) (fun _=>b0) (bV 18 U ab ab (dp tS U U (v:=cD) (dR ds) bx (by show _ < 14; omega) fun aZ ak ch=> ?_))))
 have d3:=jj.yQ (x:=(⟨x,(if r.getD 0 []=cg then 2 else 1:Nat),(decide (r.getD 2 []= [89])),F.rules.length,n⟩:db)) au (eC.wk aT) (A2 (c:=(⟨x,(if r.getD 0 []=cg then 2 else 1:Nat),(decide (r.getD 2 []= [89])),F.rules.length,n⟩:db)) aR e7) aO fh ak ch
 have eE:=bC.oB bi bx ak
 have dh:=ak.aC cq (fun h=>by rw [h,bx] at cq; cases cq)
 have eM:=eL.md ak (eG bx ao)
 have ep:=ex.trans (Mw.of ak (TF.eq (c5 bx) ao) (fun k hk=>hk ▸ au.lo.1))
 refine dx ab (tn (ef _ _ (sq (fun f6 eg=>rg U (p (fa qK U) (p (ld eu U ((a4 dh).trans U)) (p mv (nl (tn (eg _ _ (aC (lp (fun cM a3 ah=> ∃ (i:Nat) (xs:List eX) (rows':List Rw) (b3:Nat) (E:dq) (R':dV),(i≤n)∧(eD [r.getD 0 [],r.getD 1 []] (iw F.kind F.aliases (⟨x,(if r.getD 0 []=cg then 2 else 1:Nat),(decide (r.getD 2 []= [89])),F.rules.length,n⟩:db)) H.eof (group [r.getD 0 [],r.getD 1 []] (iw F.kind F.aliases (⟨x,(if r.getD 0 []=cg then 2 else 1:Nat),(decide (r.getD 2 []= [89])),F.rules.length,n⟩:db)) H.eof n rows) xs (n - i) rows')∧(xs.length=i)∧(bQ ah B H.fb H.mc {F with bf:=F.bf++ [(⟨x,(if r.getD 0 []=cg then 2 else 1:Nat),(decide (r.getD 2 []= [89])),F.rules.length,n⟩:db)],rules:=F.rules++xs} E)∧(bC ah B H {F with bf:=F.bf++ [(⟨x,(if r.getD 0 []=cg then 2 else 1:Nat),(decide (r.getD 2 []= [89])),F.rules.length,n⟩:db)],rules:=F.rules++xs} R' rows' b3 seen)∧(gE {F with bf:=F.bf++ [(⟨x,(if r.getD 0 []=cg then 2 else 1:Nat),(decide (r.getD 2 []= [89])),F.rules.length,n⟩:db)],rules:=F.rules++xs} rows' seen)∧(c7 B H w ah)∧(ah.heap[G]? =some (.cells [aI x,.int .i64 ((if r.getD 0 []=cg then 2 else 1:Nat):Nat),.bool (decide (r.getD 2 []= [89])),.int .i64 (F.rules.length:Nat),.int .i64 (n:Nat)].toArray 157 (0,0)))∧(Tg ah cK 9 r.length (.slice M r.length O) (r.map str))∧(a3 0= .pointer (some ⟨H.rb,0,none⟩))∧(a3 1= .slice M r.length O)∧(a3 4= .pointer (some ⟨G,0,none⟩))∧(a3 102= .int .i64 (n:Nat))∧(a3 103= .int .i64 (i:Nat))∧(n - i=cM)) _ ⟨0,[],rows,ln,{V with v11:=cD},R,aa,eD.start,U,((by rw [List.append_nil]; exact d3)),((by rw [List.append_nil]; exact eE)),(⟨by simp only [List.length_append,List.length_singleton,List.length_nil]; omega,aE.sl,aE.row,aE.kd,aE.al⟩),ep,dh,eM,U,U,U,U,U,U⟩ ?_))))))))))))
 rintro cM a3 ah ⟨i,xs,rows',b3,E,R',hi,aV,fO,cO,av,a8,cS,du,bs,fB,fD,fG,fE,fF,rfl⟩
 refine fx 0 fB (fx 1 fD (fx 4 fG (fx 102 fE (fx 103 fF (sq (fun f7 eh=>rg U (p (lt U U) (nl (tn (eh _ _ (sq (fun f8 ei=>cd U (fun e4=> ?_) (fun e4=> ?_)))))))))))))
 refine aH (tn (ei _ _ (sq (fun fW d7=>aC (sq (fun fX d8=> ?_))))))
 have ax:(fun w'=>Md (fun k=>k=H.rb) ah w') ah.drew:=(Md.refl _ _).drew
 refine bS (fun w'=>Md (fun k=>k=H.rb) ah w') U wide ax (hp 0 U ab (fun _ _=>aB (.pointer (some ⟨H.rb,0,none⟩)) U) ax (hp 1 U ab (fun _ _=>aB (.slice M r.length O) U) ax (hp 2 U ab (fun _ _=>aQ bT U U aa (aw.ok (bs.bN.2) (bL aa))) ax (hp 3 U ab (fun w' a=>ld bF U (bM.get (i:=0) (bs.md a (eG av.cells ao)).bN.2 aa)) ax (hp 4 U ab (fun _ _=>aB (.slice M r.length O) U) ax (hp 5 U ab (fun _ _=>aQ bT U U aa (aw.ok (bs.bN.2) (bL aa))) ax (hp 6 U ab (fun w' a=>ld bF U (bM.get (i:=1) (bs.md a (eG av.cells ao)).bN.2 aa)) ax (he 7 U ab (lM (L:= [str (r.getD 0 []),str (r.getD 1 [])]) dC U U U U fun dP cF gf cW dU=> ?_)))))))))
 have ai:Wk ah cF:=fz cW.md
 have cU:=cS.trans (Wk.mw ai)
 have c0:(fun w'=>Md (fun k=>k=H.rb) ah w') cF:=ax.trans' cW.md (fun _ _ h=>h.elim)
 refine ⟨c0,?_⟩
 refine lY 8 U ab U (bO qe (qY B H {F with bf:=F.bf++ [(⟨x,(if r.getD 0 []=cg then 2 else 1:Nat),(decide (r.getD 2 []= [89])),F.rules.length,n⟩:db)],rules:=F.rules++xs} R' rows' b3 seen [r.getD 0 [],r.getD 1 []] dP 2 _ _ cF (av.wk ai) (Tg.rz dU U) U ao (fun q cz=>(a8.row q cz).2.1)) U fun gG az eH=> ?_) (fun c w' s aS I=>by
  obtain ⟨h1,h2⟩:=s
  have hm:=cU.trans (c7.rb (av.wk ai) h2)
  rcases h1 with ⟨rfl,h3⟩ | ⟨b4,aY,rest,rfl,h4,h3⟩
  exact ⟨_,_,qh ag aX aW bJ (aV.ends aa),h3,hm⟩
  exact ⟨_,_,qh ag aX aW bJ (aV.other aa h4),h3,hm⟩)
 obtain ⟨b4,aY,rest,rfl,dw,⟨aD,bk⟩,hT15,hM15⟩:=eH
 obtain ⟨dN,n6,rfl⟩:=hT15.slice
 have aK:=(cO.wk ai).rb (av.wk ai) hM15
 have cV:=cU.trans (c7.rb (av.wk ai) hM15)
 have fm:aY≠[]∧aY.length≤70000∧∀ x∈aY,x.length≤70000:=a8.row (b4,aY) (by simp)
 have a7:=gE.lQ a8
 have e3:=a8.len
 simp only [List.length_cons,List.length_append] at e3
 have eN:=(bs.wk ai).md hM15 (eG (av.wk ai).cells ao)
 have cr:=hM15.aC (Wk.aC ai du) (fun h=>by have h1:=(av.wk ai).cells; rw [← h,Wk.aC ai du] at h1; cases h1)
 have c1:(fun w'=>Md (fun k=>k=H.rb) ah w') az:=c0.trans' hM15 (fun _ _ h=>h)
 refine ⟨c1,?_⟩
 refine hp 9 U ab (fun _ _=>aA) c1 (hn ab (tn (d8 _ _ (sq (fun fY d9=> ?_)))))
 have bG:¬(E.dG.ownBlock=some H.rb):=cT aK.dY bk.cells ao
 have cy:¬(E.dG.ownBlock=some H.fb):=cT aK.dY aK.cells ao
 have fd:¬(E.dG.ownBlock=some G):=cT aK.dY cr ao
 have J:(fun w'=>Md (fun k=>E.dG.ownBlock=some k) az w') az.drew:=(Md.refl _ _).drew
 refine dy (fun w'=>Md (fun k=>E.dG.ownBlock=some k) az w') 21 U wide J (bD 0 U ab (fun _=>aB (.pointer (some ⟨H.rb,0,none⟩)) U) (fun _=>J) (bD 1 U ab (fun _=>nc U) (fun _=>J) (bD 2 U ab (fun _=>fa dX U) (fun _=>J) (fZ 3 U ab (fun w' a=>ld dO U (Md.aG a ((a4 bk.cells).trans U) bG)) J (bD 4 U ab (fun _=>aB (.pointer (some ⟨H.rb,0,none⟩)) U) (fun _=>J) (bD 5 U ab (fun _=>nc U) (fun _=>J) (bD 6 U ab (fun _=>fa dX U) (fun _=>J) (fZ 7 U ab (fun w' a=>ld dO U (Md.aG a ((a4 bk.cells).trans U) bG)) J (bD 8 U ab (fun _=>nc U) (fun _=>J) (bD 9 U ab (fun _=>fa dQ U) (fun _=>J) (bD 10 U ab (fun _=>fa ke U) (fun _=>J) (fZ 11 U ab (fun w' a=>ld kY U (Md.aG a ((a4 aK.cells).trans U) cy)) J (bD 12 U ab (fun _=>aB (.pointer (some ⟨H.rb,0,none⟩)) U) (fun _=>J) (fZ 13 U ab (fun w' a=>cC mA U (U) (fun j e8=>bl.bI ⟨_,Md.aC a cr fd⟩ j)) J (bD 14 U ab (fun _=>mv) (fun _=>J) ?_)))))))))))))))
 refine vM 15 U ab U (bO ze (GJ B H {F with bf:=F.bf++ [(⟨x,(if r.getD 0 []=cg then 2 else 1:Nat),(decide (r.getD 2 []= [89])),F.rules.length,n⟩:db)],rules:=F.rules++xs} E aD rest b4 seen (⟨x,(if r.getD 0 []=cg then 2 else 1:Nat),(decide (r.getD 2 []= [89])),F.rules.length,n⟩:db) aY B dN n6 az.drew (aK.wk (Md.refl _ _).drew) (bk.wk (Md.refl _ _).drew) a7 (by show (if r.getD 0 []=cg then 2 else 1)=1∨(if r.getD 0 []=cg then 2 else 1)=2; split <;> simp) (hT15.wk (Md.refl _ _).drew) fm.2) U fun gF fR eF=> ?_) (fun c w' s aS I=>by obtain ⟨e,he,h,h2⟩:=s; exact ⟨_,_,qh ag aX aW bJ (aV.bad aa dw he),h,cV.trans (Wk.mw (fz h2))⟩)
 obtain ⟨q,cz,fl,⟨vn,rfl,df⟩,bR⟩:=eF
 obtain ⟨a5,a6,rfl⟩:=df.slice
 have bR:=fz bR
 have c2:(fun w'=>Md (fun k=>E.dG.ownBlock=some k) az w') fR:=Md.mono bR (fun _ _ h=>h.elim)
 refine ⟨c2,?_⟩
 refine gA 16 U ab (j4 pz U U U fun f9 fS ge ck dT=> ?_)
 have ba:=bR.trans ck.md
 have Z:=aK.wk ba
 have cY:=bk.wk ba
 have eQ:=eN.wk ba
 have di:=Wk.aC ba cr
 have e1:=df.wk ck.md
 have gw:=(Array.getElem?_eq_some_iff.1 cY.cells).1
 have c3:(fun w'=>Md (fun k=>E.dG.ownBlock=some k) az w') fS:=c2.trans' ck.md (fun _ _ h=>h.elim)
 refine ⟨c3,?_⟩
 refine gA 17 U ab (ap pz (Z.dY) U aa U (aw.dj dT) (U) (U) (by simp only [List.length_append]; omega) (by simp only [List.length_append]; omega) fun cB dE dn aL gz gk=> ?_)
 have er:=(cV.trans (Wk.mw ba)).trans (Mw.of aL (TF.own Z.dY ao) (fun k hk=>(c4 Z.dY hk).1))
 have eK:=bC.own cY Z.dY aL ao
 have bA:=aL.aC Z.cells (cT Z.dY Z.cells ao)
 have cs:=aL.aC di (cT Z.dY di ao)
 have eR:=eQ.md aL (e9 Z.dY ao)
 have ff:World.ownsRow dE B 155 7 cB ((F.rules++xs)++ [q]).length (fc (((F.rules++xs)++ [q]).zip (E.rn++ [.slice a5 q.next.length a6]))):=by
  have fP:(F.rules++xs).length=E.rn.length:=by have :=Z.nx.1; rw [List.length_map] at this; exact this.symm
  rw [List.zip_append fP,show fc ((F.rules++xs).zip E.rn++ [q].zip [.slice a5 q.next.length a6])=fc ((F.rules++xs).zip E.rn)++gO (q,.slice a5 q.next.length a6) from by simp [fc],List.length_append]
  exact dn
 have bZ:(fun w'=>Md (fun k=>E.dG.ownBlock=some k) az w') dE:=c3.trans' aL (fun _ _ h=>h)
 refine ⟨bZ,?_⟩
 refine bD 18 U ab (fun _=>nc U) (fun _=>bZ) (bD 19 U ab (fun _=>fa dQ U) (fun _=>bZ) (bD 20 U ab (fun _=>fa ke U) (fun _=>bZ) (bV 21 U ab ab (dp tT U U (v:=cB) (dR dn) bA (by show _ < 14; omega) fun aZ ak ch=> ?_))))
 have d5:=bQ.yR (x:=q) (vx:= .slice a5 q.next.length a6) Z e1 aL ff ak ch
 have aP:=bC.oB eK bA ak
 have dk:=ak.aC cs (fun h=>by rw [h,bA] at cs; cases cs)
 have eS:=eR.md ak (eG bA ao)
 have es:=er.trans (Mw.of ak (TF.eq (c5 bA) ao) (fun k hk=>hk ▸ Z.lo.1))
 refine dx ab (tn (d9 _ _ ?_))
 have aq:(fun w'=>Md (fun k=>aD.vn.ownBlock=some k) aZ w') aZ.drew:=(Md.refl _ _).drew
 refine dy (fun w'=>Md (fun k=>aD.vn.ownBlock=some k) aZ w') 13 U wide aq (bD 0 U ab (fun _=>aB (.pointer (some ⟨H.rb,0,none⟩)) U) (fun _=>aq) (bD 1 U ab (fun _=>aB (.pointer (some ⟨H.rb,0,none⟩)) U) (fun _=>aq) (bD 2 U ab (fun _=>nc U) (fun _=>aq) (bD 3 U ab (fun _=>fa qN U) (fun _=>aq) (fZ 4 U ab (fun w' a=>ld sB U (Md.aG a ((a4 aP.cells).trans U) (cT aP.on aP.cells ao))) aq (bD 5 U ab (fun _=>aB (.pointer (some ⟨H.rb,0,none⟩)) U) (fun _=>aq) (bD 6 U ab (fun _=>nc U) (fun _=>aq) (bD 7 U ab (fun _=>fa m4 U) (fun _=>aq) (fZ 8 U ab (fun w' a=>ld eu U (Md.aG a ((a4 aP.cells).trans U) (cT aP.on aP.cells ao))) aq (gA 9 U ab (eY pk U U fun ga dF gg ey dW=> ?_)))))))))))
 have aF:=fz ey.md
 have ac:=aP.wk aF
 have cP:=d5.wk aF
 have gx:=(Array.getElem?_eq_some_iff.1 ac.cells).1
 have c6:(fun w'=>Md (fun k=>aD.vn.ownBlock=some k) aZ w') dF:=Md.mono aF (fun _ _ h=>h.elim)
 refine ⟨c6,?_⟩
 refine gA 10 U ab (ap pk (ac.on) U aa U (aw.dj dW) (U) (U) (by simp only [List.length_append]; omega) (by simp only [List.length_append]; omega) fun b5 b7 dr aN gB gl=> ?_)
 have ev:=(es.trans (Wk.mw aF)).trans (Mw.of aN (TF.own ac.on ao) (fun k hk=>(c4 ac.on hk).1))
 have de:TF dF [5] (fun k=>aD.vn.ownBlock=some k):=TF.own ac.on ao
 have cR:=cP.md aN de ao (fun h=>by obtain ⟨f,cw,_⟩:=cP.cm; exact de.no (cH cw) ao h)
 have bB:=aN.aC ac.cells (cT ac.on ac.cells ao)
 have ct:=aN.aC (Wk.aC aF dk) (cT ac.on (Wk.aC aF dk) ao)
 have e0:=(eS.wk aF).md aN (e9 ac.on ao)
 have fg:World.ownsRow b7 B 3 1 b5 ((F.rules++xs)++ [q]).length (((F.rules++xs)++ [q]).map fun r=>Value.int .i64 (r.line:Nat)):=by
  rw [List.map_append,List.length_append]
  show World.ownsRow b7 B 3 1 b5 _ (_++ [Value.int .i64 (q.line:Nat)])
  rw [fl]
  exact dr
 have co:(fun w'=>Md (fun k=>aD.vn.ownBlock=some k) aZ w') b7:=c6.trans' aN (fun _ _ h=>h)
 refine ⟨co,?_⟩
 refine bD 11 U ab (fun _=>nc U) (fun _=>co) (bD 12 U ab (fun _=>fa qN U) (fun _=>co) (bV 13 U ab ab (dp BC U U (v:=b5) (dR dr) bB (by show _ < 7; omega) fun b6 bd dS=> ?_)))
 have dd:TF b7 [94] (fun k=>k=H.rb):=TF.eq (c5 bB) ao
 have d6:=cR.md bd dd ao (fun h=>by obtain ⟨f,cw,_⟩:=cR.cm; exact dd.no (cH cw) ao h)
 exact dx ab (bn (tn (d7 _ _ (rg U (p (ad U U (bu aa)) (p mv (nl (tn (⟨_,aa,i+1,xs++ [q],rest,b4,{E with dG:=cB,rn:=E.rn++ [.slice a5 q.next.length a6]},{aD with vn:=b5},aa,((by rw [show n - (i+1)=n - i - 1 by omega]; exact aV.step aa dw cz)),((by rw [List.length_append,fO]; rfl)),((by rw [← List.append_assoc]; exact d6)),((by rw [← List.append_assoc]; exact bC.Fc (q:=q) ac aN fg bd dS U (fun _=>rfl))),(⟨by simp only [List.length_append,List.length_singleton]; omega,a7.sl,a7.row,a7.kd,a7.al⟩),((ev.trans (Mw.of bd (TF.eq (c5 bB) ao) (fun k hk=>hk ▸ ac.lo.1)))),((bd.aC ct (fun h=>by rw [h,bB] at ct; cases ct))),((e0.md bd (eG bB ao))),U,U,U,U,U,U⟩)))))))))
 refine ext (te _ (te _ (be (fk (f0 U ?_)))))
 rw [show n - i=0 by omega] at aV
 exact ⟨U,_,rows',b3,AG ag aX aW bJ aV.done,⟨E,R',cO,av,a8⟩,cS⟩
end Go.Hb.kO
end
section
set_option maxRecDepth 20000
set_option maxHeartbeats 1000000
namespace Go.Hb.my
open Go.Hb.c6
open Go.Proofs
open Go.Hb.ff Go.Hb.fP Go.Hb.jV Go.Hb.gh Go.Hb.ji Go.Hb.kO Go.Hb.jZ Go.Hb.iG Go.Hb.kS Go.Hb.gu Go.Hb.lD Go.Hb.mz Go.Hb.gP Go.Hb.gG
def od:db:=⟨0,0,false,0,0⟩
theorem CH {x:Nat} :∀ {cs:List db} {i:Nat},cs.findIdx? (fun c=>decide (c.flag=x))=some i→∃ c,cs[i]? =some c∧dP cs x=some c:=by
 intro cs
 induction cs with
 | nil=>intro i h; simp at h
 | cons a l s=>
   intro i h
   rw [List.findIdx?_cons] at h
   unfold dP
   rw [List.find?_cons]
   by_cases p:a.flag=x
   · simp only [p,decide_true,if_true] at h ⊢
     cases h
     exact ⟨a,U,U⟩
   · simp only [p,decide_false] at h ⊢
     simp only [Bool.false_eq_true,if_false,Option.map_eq_some_iff] at h
     obtain ⟨j,q,rfl⟩:=h
     obtain ⟨c,h1,h2⟩:=s q
     exact ⟨c,by simpa using h1,h2⟩
theorem Ft {F:aM} {x:Nat} (h:x=F.sp.getD 0 0):iP F x=true :=by unfold iP; rw [decide_eq_true h]; rfl
theorem Fu {F:aM} {x:Nat} (h:(dP F.bf x).isSome=true) (hk:((dP F.bf x).getD od).kind=2):iP F x=true :=by
 unfold iP
 obtain ⟨c,a⟩:=Option.isSome_iff_exists.1 h
 rw [a] at hk ⊢
 simp only [Option.getD_some] at hk
 simp [hk]
theorem rB {F:aM} {x:Nat} (a:x≠F.sp.getD 0 0) (h:(dP F.bf x).isSome=true) (hk:((dP F.bf x).getD od).kind≠2):iP F x=false :=by
 unfold iP
 obtain ⟨c,i⟩:=Option.isSome_iff_exists.1 h
 rw [i] at hk ⊢
 simp only [Option.getD_some] at hk
 rw [decide_eq_false a]
 simp [hk]
theorem rC {F:aM} {x:Nat} (a:x≠F.sp.getD 0 0) (h:(dP F.bf x).isSome=false):iP F x=false :=by
 unfold iP
 rw [decide_eq_false a]
 cases hc:dP F.bf x with
 | none=>rfl
 | some c=>rw [hc] at h; cases h
theorem lL {F:aM} {q:eX} {j:Nat} (a:j < q.next.length) (h:iP F (q.next.getD j 0)=false):jn F q=true :=by
 unfold jn
 rw [List.any_eq_true]
 exact ⟨_,dK a,by rw [h]; rfl⟩
theorem yV {F:aM} {q:eX} (h:∀ j,j < q.next.length→iP F (q.next.getD j 0)=true):jn F q=false :=by
 unfold jn
 rw [List.any_eq_false]
 intro x c
 obtain ⟨j,a,rfl⟩:=m9 0 c
 rw [h j a]; simp
theorem lT {p:eX→Bool} {q:eX} :∀ {l:List eX} {i:Nat},(∀ j c,j < i→l[j]? =some c→p c=false)→l[i]? =some q→p q=true→l.find? p=some q:=by
 intro l
 induction l with
 | nil=>intro i _ h; simp at h
 | cons a l C=>
   intro i s hi hp
   rw [List.find?_cons]
   cases i with
   | zero=>simp only [List.getElem?_cons_zero,Option.some.injEq] at hi; subst hi; rw [hp]
   | succ i=>
     rw [s 0 a aa rfl]
     exact C (i:=i) (fun j c E A=>s (j+1) c aa (by simpa using A)) (by simpa using hi) hp
theorem CK {p:eX→Bool} {l:List eX} (h:∀ j c,j < l.length→l[j]? =some c→p c=false):l.find? p=none:=by
 rw [List.find?_eq_none]
 intro q i
 obtain ⟨j,a⟩:=List.getElem?_of_mem i
 rw [h j q (List.getElem?_eq_some_iff.1 a).1 a]; simp
theorem CJ {x:Nat} {cs:List db} (h:cs.findIdx? (fun c=>decide (c.flag=x))=none):dP cs x=none:=by
 rw [List.findIdx?_eq_none_iff] at h
 unfold dP
 rw [List.find?_eq_none]
 intro c a
 simpa using h c a
theorem uB (B fb mc:Nat) (F:aM) (V:dq) (x:Nat) (w:World) (q:bQ w B fb mc F V) (aN:F.bf.length≤70000):
 a3 Tryz.prog 67 (List.toArray [a6 fb,aI x]) w (fun v w'=>v= .tuple #[.agg (j7 ((dP F.bf x).getD od)).toArray,.bool (dP F.bf x).isSome]∧Wk w w'):=by
 obtain ⟨ah,fH,M⟩:=cE q.eB
 have I:=q.eB
 rw [M] at I
 have ao:Hb.aG w.heap fb 11=some (.slice ah F.bf.length fH):=by rw [← M]; exact (a4 q.cells).trans rfl
 obtain ⟨f,ar,av⟩:=q.cm
 obtain ⟨iv,ob,ax,aB,E⟩:∃ (iv:Nat) (ob:Bool),(f (aI x)).getD (.int .i64 0)=ae iv∧(f (aI x)).isSome=ob∧((ob=false∧dP F.bf x=none)∨(ob=true∧∃ c,F.bf[iv]? =some c∧dP F.bf x=some c)):=by
  rw [av x]
  cases hfi:F.bf.findIdx? (fun c=>decide (c.flag=x)) with
  | none=>exact ⟨0,false,rfl,rfl,.inl ⟨rfl,CJ hfi⟩⟩
  | some i=>exact ⟨i,true,rfl,rfl,.inr ⟨rfl,CH hfi⟩⟩
 refine enter Tryz.func67 U Tryz.ntmps67 U (ag (fun _ O=>(e (al nH fun aF aO aK a C=>au (((O _ _ (sq (fun _ Y=>sq (fun _ Z=>rg U (aj (a6 fb) (p (jc ny U U) (az ((Z _ _ (cf (U) (aH (tn (Y _ _ (ag (fun _ ab=>(aj (a6 fb) (p (nc U) (p (fa uU U) (p (ld mD U (Wk.aG a.md ((a4 q.cells).trans U))) (aj (aI x) (p (vR dD jU lj (ar.wk a.md) U U (⟨_,U⟩) (ax) (aB)) (p mv (p (xt U U) (p (xt U U) (p aA (au (((ab _ _ (sq (fun _ ac=>ag (fun _ ad=>(p mv (p (no U) (az ((ad _ _ (cb U (fun A=> ?_) (fun A=> ?_)))))))))))))))))))))))))))))))))))))))))))))
 have aC:ob=false :=by simpa using A
 have aq:dP F.bf x=none:=by rcases E with ⟨_,h⟩ | ⟨h,_⟩; exact h; rw [aC] at h; cases h
 exact ag (fun _ s=>(p (bU (ps:= []) (L:= [.int .u16 0,.int .i64 0,.bool false,.int .i64 0,.int .i64 0]) rW U (U)) (e (b8 lN U U U U (C) (by simp) fun aP am ai=>au (((s _ _ (rt (tr (ez U (dm (cs:=j7 od) U mA U (fun j ay=>ai.bI j)) dS (⟨by rw [aq]; rfl,a.md.trans' am (fun k hk h=>by omega)⟩)))))))))))
 have aD:ob=true :=by simpa using A
 obtain ⟨c,G,ap⟩:∃ c,F.bf[iv]? =some c∧dP F.bf x=some c:=by rcases E with ⟨h,_⟩ | ⟨_,h⟩; rw [aD] at h; cases h; exact h
 have aL:=(List.getElem?_eq_some_iff.1 G).1
 have J:=aE I a.md
 exact aH (tn (ac _ _ (ag (fun _ s=>(aj (a6 fb) (p (nc U) (p (fa dQ U) (p (fa lW U) (p (ld nX U (Wk.aG a.md ao)) (p mv (p (aQ CA U U aa (aw.ok ((aJ J).2) (fun h=>by have :=congrArg List.length h; rw [show (iM F.bf).length=F.bf.length*5 from kD (f:=j7) (m:=5) (fun _=>rfl) _] at this; simp at this; omega))) (p (cC mA U (U) (fX (f:=j7) (m:=5) (fun _=>rfl) (aJ J).2 G)) (e (b8 lN U U U U (C) (by simp) fun aR an ak=>au (((s _ _ (rt (ez U (dm (cs:=j7 c) U mA U (fun j ay=>ak.bI j)) dS (⟨by rw [ap]; rfl,a.md.trans' an (fun k hk h=>by omega)⟩))))))))))))))))))))
theorem Au (B:Nat) (H:bw) (F:aM) (rows:List Rw) (ln:Nat) (seen:List Tx) (w:World) (bF:St w B H F rows ln seen) (bS:∀ q∈F.rules,q.next.length≤64):
 c8 Tryz.prog 35 (List.toArray [.pointer (some ⟨H.rb,0,none⟩)]) w (fun v w'=>v= .tuple #[]∧F.rules.find? (jn F)=none∧(∃ V R' ar,bQ w' B H.fb H.mc F V∧bC w' B H F R' rows ar seen)∧c7 B H w w') (fun c w'=> ∃ q,F.rules.find? (jn F)=some q∧c=eO 25 q.line 118∧c7 B H w w'):=by
 obtain ⟨V,R,J,an,a3⟩:=bF
 obtain ⟨av,iL,aR⟩:=cE J.dY
 have bT:=J.dY
 rw [aR] at bT
 have bJ:Hb.aG w.heap H.fb 12=some (.slice av F.rules.length iL):=by rw [← aR]; exact (a4 J.cells).trans rfl
 obtain ⟨vr,vs,vn⟩:=R
 obtain ⟨aj,cv,ca⟩:=cE an.on
 obtain rfl :vn= .slice aj F.rules.length cv:=ca
 have cy:=a3.len
 have cz:=an.lo
 refine fI Tryz.func35 U Tryz.ntmps35 U (sq (fun cf bd=>rg U (p (aB (.pointer (some ⟨H.rb,0,none⟩)) U) (p (nc U) (p (fa dX U) (p (ld dO U ((a4 an.cells).trans U)) (p (nc U) (p (fa dQ U) (p (fa ke U) (p (ld kY U (bJ)) (p (bo pF U U) (p mv (nl (tn (bd _ _ (aC (lp (fun Z ai ah=> ∃ (i ar:Nat),(i≤F.rules.length)∧(∀ j q,j < i→F.rules[j]? =some q→jn F q=false)∧(bQ ah B H.fb H.mc F V)∧(bC ah B H F ⟨vr,vs,.slice aj F.rules.length cv⟩ rows ar seen)∧(c7 B H w ah)∧(ai 0= .pointer (some ⟨H.rb,0,none⟩))∧(ai 15= .slice av F.rules.length iL)∧(ai 16= .int .i64 (F.rules.length:Nat))∧(ai 17= .int .i64 (i:Nat))∧(F.rules.length - i=Z)) _ ⟨0,ln,aa,((fun j q aX=>by omega)),J,an,(Md.refl _ _),U,U,U,U,U⟩ ?_)))))))))))))))))
 rintro Z ai ah ⟨i,ar,hi,G,am,aF,aT,bW,bY,bZ,b0,rfl⟩
 refine fx 0 bW (fx 15 bY (fx 16 bZ (fx 17 b0 (sq (fun cj bh=>rg U (p (lt U U) (nl (tn (bh _ _ (sq (fun ck bi=>cd U (fun bK=> ?_) (fun bK=> ?_))))))))))))
 refine aH (tn (bi _ _ (sq (fun cm bk=>aC (sq (fun cn bl=> ?_))))))
 have aN:=am.dY
 rw [aR] at aN
 have aW:i < F.rules.length:=aa
 obtain ⟨vn,b9,aL⟩:=bX.get am.nx (i:=i) (by rw [List.length_map]; exact aW)
 obtain ⟨q,s⟩:∃ q,F.rules[i]? =some q:=⟨_,List.getElem?_eq_getElem aW⟩
 have bV:(F.rules.map (·.next)).getD i []=q.next:=by rw [List.getD_eq_getElem?_getD,List.getElem?_map,s]; rfl
 rw [bV] at aL
 have cB:=bS q (List.mem_of_getElem? s)
 obtain ⟨ax,ay,rfl⟩:=aL.slice
 have aY:(F.rules.zip V.rn)[i]? =some (q,.slice ax q.next.length ay):=by rw [List.getElem?_zip_eq_some]; exact ⟨s,b9⟩
 have aZ:(fc (F.rules.zip V.rn)).length=(F.rules.zip V.rn).length*7:=kD (f:=gO) (m:=7) (fun _=>rfl) _
 have bR:(F.rules.map fun r=>Value.int .i64 (r.line:Nat))[i]? =some (.int .i64 (q.line:Nat)):=by rw [List.getElem?_map,s]; rfl
 refine rg U (p (aB (.int .i64 (i:Nat)) U) (p (aQ qz U U aa (aw.ok ((aJ aN).2) (fun h=>by rw [h] at aZ; have h2:0=(F.rules.zip V.rn).length*7:=aZ; have h3:=(List.getElem?_eq_some_iff.1 aY).1; omega))) ?_))
 refine p (cC pP U (U) (fX (f:=gO) (m:=7) (fun _=>rfl) (aJ aN).2 aY)) (e (al sd fun cs cH cu aV a6=> ?_))
 skip
 refine p (bG (.int .i64 (i:Nat)) U) (e (b8 qm U U U U (a6) (by simp) fun ce bv a5=> ?_))
 have ak:Wk ah ce:=aV.md.trans' bv (fun k hk h=>by omega)
 have bb:=am.wk ak
 have A:=aF.wk ak
 have cD:=aV.size
 have cA:=(Array.getElem?_eq_some_iff.1 aF.cells).1
 refine nl (tn (bl _ _ (sq (fun co bm=>rg U (p (aB (.pointer (some ⟨H.rb,0,none⟩)) U) (p (aB (.pointer (some ⟨H.rb,0,none⟩)) U) (p (nc U) (p (fa qN U) (p (ld sB U ((a4 A.cells).trans U)) (p (aB (.int .i64 (i:Nat)) U) (p (aQ Cz U U aa (aw.ok ((aJ A.on).2) (by simp; intro h; rw [h] at s; simp at s))) (p (ld eu U (aw.h8 (aJ A.on).2 bR)) (p (nc U) (p (fa m4 U) (e (dp ju U U (v:= .int .i64 (q.line:Nat)) U A.cells (by show _ < 7; decide) fun cK ac a9=> ?_))))))))))))))))
 have bD:=A.cw (R':=⟨vr,vs,.slice aj F.rules.length cv⟩) (ln':=q.line) ac a9 rfl A.rws A.rt
 have bc:=bb.rb A ac
 have bI:=ac.B a5 (fun h=>by omega)
 have bH:=(aL.wk ak).md ac (eG A.cells ao)
 have bz:=(aT.trans (Wk.mw ak)).trans (c7.rb A ac)
 refine nl (tn (bm _ _ (sq (fun cp br=>rg U (p (fa oI U) (p (ld iJ U ((bI.aG 6).trans U)) (p (bo iF U U) (p mv (nl (tn (br _ _ (aC (lp (fun Z I Y=> ∃ (j:Nat),(j≤q.next.length)∧(∀ ag,ag < j→iP F (q.next.getD ag 0)=true)∧(bQ Y B H.fb H.mc F V)∧(bC Y B H F ⟨vr,vs,.slice aj F.rules.length cv⟩ rows q.line seen)∧(c7 B H w Y)∧(Tg Y B 71 q.next.length (.slice ax q.next.length ay) (q.next.map aI))∧(I 0= .pointer (some ⟨H.rb,0,none⟩))∧(I 15= .slice av F.rules.length iL)∧(I 16= .int .i64 (F.rules.length:Nat))∧(I 17= .int .i64 (i:Nat))∧(I 33= .slice ax q.next.length ay)∧(I 34= .int .i64 (q.next.length:Nat))∧(I 35= .int .i64 (j:Nat))∧(q.next.length - j=Z)) _ ⟨0,aa,((fun ag bP=>by omega)),bc,bD,bz,bH,U,U,U,U,U,U,U,U⟩ ?_)))))))))))))
 rintro Z I Y ⟨j,aX,aO,aD,aK,aU,ap,b1,b2,b3,b4,b5,b6,b7,rfl⟩
 refine fx 0 b1 (fx 15 b2 (fx 16 b3 (fx 17 b4 (fx 33 b5 (fx 34 b6 (fx 35 b7 (sq (fun cq bs=>rg U (p (lt U U) (nl (tn (bs _ _ (sq (fun cr bt=>cd U (fun bM=> ?_) (fun bM=> ?_)))))))))))))))
 refine aH (tn (bt _ _ (sq (fun cg aE=>aC (sq (fun ch bf=> ?_))))))
 have cb:(q.next.map aI)[j]? =some (aI (q.next.getD j 0)):=by rw [List.getElem?_map,List.getD_eq_getElem?_getD,List.getElem?_eq_getElem (by omega :j < q.next.length)]; rfl
 refine rg U (p (aQ ba U U aa (aw.ok (ap.bN.2) (bL aa))) (p (ld bq U (aw.h8 ap.bN.2 cb)) (p aA (nl (tn (bf _ _ (sq (fun ci bg=>rg U (p (aB (.pointer (some ⟨H.rb,0,none⟩)) U) (p (nc U) (p (fa dX U) (p (ld dO U ((a4 aK.cells).trans U)) (p mv (e (cl tw (uB B H.fb H.mc F V (q.next.getD j 0) _ aD aa) U fun cG cI bB=> ?_)))))))))))))))
 obtain ⟨rfl,aS⟩:=bB
 have cF:=aS.size
 refine p mv (p (xt U U) (p (xt U U) (e (al nH fun ct cJ cx bA a7=>e (b8 lN U U U U (a7) (by simp) fun au bx a8=> ?_)))))
 have ab:Wk Y au:=(aS.trans bA.md).trans' bx (fun k hk h=>by omega)
 have az:=aD.wk ab
 have O:=aK.wk ab
 have C:=aU.trans (Wk.mw ab)
 refine p aA (nl (tn (bg _ _ (rg U (p (aB (.pointer (some ⟨H.rb,0,none⟩)) U) (p mv (p (aB (.pointer (some ⟨H.rb,0,none⟩)) U) (p (nc U) (p (fa dX U) (p (ld dO U ((a4 O.cells).trans U)) (p (nc U) (p (fa dQ U) (p (fa uT U) (p (je pS U U aa) (p (ld bq U ((a4 az.cells).trans U)) (p (bp U U) (p mv (gs (t:=60) U (fun M=> ?_) (fun M=> ?_)))))))))))))))))))
 refine sk U U U U (sk U U U U (ma U U U (ma U U U (ma U U U (sk U U U U (p (bE U) ?_))))))
 refine eP U (bO ed (ej H.rb q.line _ 118 au O.cQ ao) U fun a0 a1 ae=> ?_) (fun c w' a a2 J=>by
  first
   | exact absurd a.2.1 ao
   | exact ⟨q,lT G s (lL (j:=j) aa (rB (fun h=>M (by rw [h])) E (by have :=of_decide_eq_false a.2.1; omega))),a.1,by rw [a.2.2]; exact C⟩
   | exact ⟨q,lT G s (lL (j:=j) aa (rC (fun h=>M (by rw [h])) (by simpa using E))),a.1,by rw [a.2.2]; exact C⟩)
 obtain ⟨rfl,aq,rfl⟩:=ae
 exact nl (bn (tn (aE _ _ (rg U (p (ad U U (bu aa)) (p mv (nl (tn (⟨_,aa,j+1,aa,((fun k hk=>by rcases Nat.lt_or_ge k j with h | h <;> first | exact aO k h | (rw [show k=j by omega]; exact Ft aa))),az,O,C,(ap.wk ab),U,U,U,U,U,U,U,U⟩)))))))))
 refine pg U U U mv (pg U U U mv (gb (t:=62) U (fun E=> ?_) (fun E=> ?_)))
 refine pg U U U (fa oJ U) (pg U U U (ld eu U ((a8.aG 1).trans U)) (pg U U U (bp U U) (pg U U U (bE U) (p (bj U) ?_))))
 refine eP U (bO ed (ej H.rb q.line _ 118 au O.cQ ao) U fun a0 a1 ae=> ?_) (fun c w' a a2 J=>by
  first
   | exact absurd a.2.1 ao
   | exact ⟨q,lT G s (lL (j:=j) aa (rB (fun h=>M (by rw [h])) E (by have :=of_decide_eq_false a.2.1; omega))),a.1,by rw [a.2.2]; exact C⟩
   | exact ⟨q,lT G s (lL (j:=j) aa (rC (fun h=>M (by rw [h])) (by simpa using E))),a.1,by rw [a.2.2]; exact C⟩)
 obtain ⟨rfl,aq,rfl⟩:=ae
 exact nl (bn (tn (aE _ _ (rg U (p (ad U U (bu aa)) (p mv (nl (tn (⟨_,aa,j+1,aa,((fun k hk=>by rcases Nat.lt_or_ge k j with h | h <;> first | exact aO k h | (rw [show k=j by omega]; exact Fu E (by have :=of_decide_eq_true aq; omega)))),az,O,C,(ap.wk ab),U,U,U,U,U,U,U,U⟩)))))))))
 refine sk U U U U (sk U U U U (sk U U U U (pg U U U (bj U) (p (bj U) ?_))))
 refine eP U (bO ed (ej H.rb q.line _ 118 au O.cQ ao) U fun a0 a1 ae=> ?_) (fun c w' a a2 J=>by
  first
   | exact absurd a.2.1 ao
   | exact ⟨q,lT G s (lL (j:=j) aa (rB (fun h=>M (by rw [h])) E (by have :=of_decide_eq_false a.2.1; omega))),a.1,by rw [a.2.2]; exact C⟩
   | exact ⟨q,lT G s (lL (j:=j) aa (rC (fun h=>M (by rw [h])) (by simpa using E))),a.1,by rw [a.2.2]; exact C⟩)
 obtain ⟨rfl,aq,rfl⟩:=ae
 exact nl (bn (tn (aE _ _ (rg U (p (ad U U (bu aa)) (p mv (nl (tn (absurd aq ao)))))))))
 exact ext (te _ (te _ (be (bn (tn (bk _ _ (rg U (p (ad U U (bu aa)) (p mv (nl (tn (⟨_,aa,i+1,q.line,aa,((fun k cc hk aP=>by rcases Nat.lt_or_ge k i with h | h <;> first | exact G k cc h aP | (rw [show k=i by omega,s] at aP; cases aP; exact yV (fun ag bP=>aO ag aa)))),aD,aK,aU,U,U,U,U,U⟩))))))))))))
 refine ext (te _ (te _ (be (fk (f0 U ?_)))))
 exact ⟨U,CK (fun j q aX bU=>G j q aa bU),⟨V,_,_,am,aF⟩,aT⟩
end Go.Hb.my
end
section
set_option maxRecDepth 20000
set_option maxHeartbeats 1000000
namespace Go.Hb.sg
open Go.Hb.c6
open Go.Proofs
open Go.Hb.ff
theorem Ge (A C:Nat) (w:World):
 CallsD Tryz.prog 31 (List.toArray [.pointer (some ⟨A,0,none⟩),.pointer (some ⟨C,0,none⟩)]) .returning w (fun a E w'=> ∃ v,a= .returned v∧E= .returning∧(fun w'=>Wk w w') w'):=by
 refine tE (v:= .nilIface) Tryz.func31 U Tryz.ntmps31 U (fun J cs s=> .inr ⟨by simp [recoverD,s],U,U⟩) ?_
 refine p (Ht rk Ir U) (p mv (p (xt U U) (p (xt U U) (e (al gd fun I V O q c=>e (b8 dW U U U U (c) (by simp) fun Y j M=>p aA (nl (tn (sq (fun G i=>rg U (p mv (nl (tn (i _ _ (cf (U) (aH (f0 U ?_)))))))))))))))))
 exact q.md.trans' j (fun k hk h=>by omega)
theorem Gd (a c:Nat) (ln:Nat) (er:Int) (w:World) (h2:∃ v:Value,w.heap[a]? =some (.cells [v].toArray 22 (0,0))) (h3:∃ L:List Value,L.length=3∧w.heap[c]? =some (.cells L.toArray 25 (0,0))) (M:a≠c):
 CallsD Tryz.prog 31 (List.toArray [.pointer (some ⟨a,0,none⟩),.pointer (some ⟨c,0,none⟩)]) (.panicking (eO 25 ln er)) w (fun V am w'=> ∃ v,V= .returned v∧am=(.panicking [{v:= .iface 25 (.agg [.int .i64 1,.int .i64 (ln:Nat),.int .i64 er].toArray),recovered:=true}])∧(fun w'=>w'.heap[a]? =some (.cells [.pointer none].toArray 22 (0,0))∧w'.heap[c]? =some (.cells [.int .i64 1,.int .i64 (ln:Nat),.int .i64 er].toArray 25 (0,0))∧Md (fun k=>k=a∨k=c) w w') w'):=by
 obtain ⟨v2,h2⟩:=h2
 obtain ⟨G,ag,h3⟩:=h3
 have av:=(Array.getElem?_eq_some_iff.1 h2).1
 have aw:=(Array.getElem?_eq_some_iff.1 h3).1
 refine tE (v:= .iface 25 (.agg [.int .i64 1,.int .i64 (ln:Nat),.int .i64 er].toArray)) Tryz.func31 U Tryz.ntmps31 U (fun aq cs aj=> .inl (by simp [recoverD,aj,eO])) ?_
 refine p (Hs rk U) (p mv (p (xt U U) (p (xt U U) (e (al gd fun O ax ar C Z=>e (b8 dW U U U U (Z) (by simp) fun i q Y=> ?_))))))
 have ad:bl i.heap O [.int .i64 1,.int .i64 (ln:Nat),.int .i64 er]:=Y
 refine p aA (nl (tn (sq (fun ap ae=>rg U (p mv (nl (tn (ae _ _ (ct (U) ?_)))))))))
 have E:(fun w'=>Md (fun k=>k=a∨k=c) i w') i.drew:=(Md.refl _ _).drew
 refine bS (fun w'=>Md (fun k=>k=a∨k=c) i w') U wide E (hp 0 U ab (fun w' ah=>cC fG U (U) (fun j au=>bl.bI (Md.B ah ad (fun h=>by omega)) j)) E (he 1 U ab (dp qo U U (v:= .pointer none) U (q.aC (Wk.aC C.md h2) (fun h=>by omega)) (by show 0 < 1; decide) fun an s ac=> ?_)))
 have J:(fun w'=>Md (fun k=>k=a∨k=c) i w') an:=E.trans' s (fun _ _ h=> .inl h)
 refine ⟨J,?_⟩
 refine he 2 U ab (fy dW U U U U (s.aC (q.aC (Wk.aC C.md h3) (fun h=>by omega)) (fun h=>M h.symm)) (by rw [ag]; decide) fun ao A I=> ?_)
 have ai:(fun w'=>Md (fun k=>k=a∨k=c) i w') ao:=J.trans' A (fun _ _ h=> .inr h)
 refine ⟨ai,?_⟩
 refine hn ab (f0 U ?_)
 have ak:G.take 0 ++ [Value.int .i64 1,.int .i64 (ln:Nat),.int .i64 er]++G.drop (0 +3)= [Value.int .i64 1,.int .i64 (ln:Nat),.int .i64 er]:=by rw [List.drop_eq_nil_of_le aa]; rfl
 rw [ak] at I
 exact ⟨A.aC ac M,I,(((C.md.mono fun _ _ h=>h.elim).trans' q (fun k hk h=>by omega)).trans' (fz s) (fun _ _ h=> .inl h)).trans' A (fun _ _ h=> .inr h)⟩
theorem wY (a c:Nat) (w:World):(invoke (.fn (.func 31) #[a6 a,a6 c]) #[]).run Tryz.prog w= .ok (.enter 31 #[a6 a,a6 c]) w:=by
 have h:=zW #[a6 a,a6 c] w
 simp [invoke,h]
theorem oz {n:Nat} {D:List Deferred} {G:List Nat} {σ:Nat→Value} {t:Nat} (h:t < n):ev ⟨n,D,G,none⟩ σ (.tmp t)=σ t:=by
 show cond (Nat.blt t n) (σ t) undef=_
 rw [show Nat.blt t n=true from by simpa using h]; rfl
theorem Gi {n:Nat} {G:List Nat} {fn:Func} {R:Value→World→Prop} {σ:Nat→Value} {w:World} {a c ln:Nat} {er:Int} (A:fn.results= #[.cell 2 22,.cell 3 25]) (I:3 < n) (C:σ 2= .pointer (some ⟨a,0,none⟩)) (E:σ 3= .pointer (some ⟨c,0,none⟩)) (h2:∃ v:Value,w.heap[a]? =some (.cells [v].toArray 22 (0,0))) (h3:∃ L:List Value,L.length=3∧w.heap[c]? =some (.cells L.toArray 25 (0,0))) (s:a≠c)
 (i:∀ w',Md (fun k=>k=a∨k=c) w w'→R (.tuple #[.pointer none,.agg [.int .i64 1,.int .i64 (ln:Nat),.int .i64 er].toArray]) w'):qb ⟨n,[{target:= .fn (.func 31) #[.pointer (some ⟨a,0,none⟩),.pointer (some ⟨c,0,none⟩)],args:= #[]}],G,none⟩ (ks Tryz.prog fn R) (.panic (eO 25 ln er)) σ w:=by
 refine CF (wY a c w) (Gd a c ln er w h2 h3 s) ?_
 rintro w' ⟨p,q,hm⟩
 exact ⟨_,o5 A (iT (rN ((oz aa).trans C) dO ((a4 p).trans U))) (iT (dm (cs:= [.int .i64 1,.int .i64 (ln:Nat),.int .i64 er]) ((oz aa).trans E) fG U (fun j _=>by rw [Nat.zero_add,a4 q]; simp))),i w' hm⟩
theorem Gj {n:Nat} {G:List Nat} {fn:Func} {R:Value→World→Prop} {σ:Nat→Value} {w:World} {a c:Nat} {v:Value} {L:List Value} (A:fn.results= #[.cell 2 22,.cell 3 25]) (I:3 < n) (C:σ 2= .pointer (some ⟨a,0,none⟩)) (E:σ 3= .pointer (some ⟨c,0,none⟩)) (h2:w.heap[a]? =some (.cells [v].toArray 22 (0,0))) (h3:w.heap[c]? =some (.cells L.toArray 25 (0,0))) (i:L.length=3)
 (p:∀ w',Wk w w'→R (.tuple #[v,.agg L.toArray]) w'):qb ⟨n,[{target:= .fn (.func 31) #[.pointer (some ⟨a,0,none⟩),.pointer (some ⟨c,0,none⟩)],args:= #[]}],G,none⟩ (ks Tryz.prog fn R) .ret σ w:=by
 refine CE (wY a c w) (Ge a c w) ?_
 intro w' hm
 have q:=Wk.aC hm h2
 have s:=Wk.aC hm h3
 exact ⟨_,o5 A (iT (rN ((oz aa).trans C) dO ((a4 q).trans U))) (iT (dm (cs:=L) ((oz aa).trans E) fG i (fun j _=>by rw [Nat.zero_add,a4 s]; simp))),p w' hm⟩
end Go.Hb.sg
end
