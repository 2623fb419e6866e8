/-
  Walks and plain laws that the law rests on, laid together. No conditions but those that each theorem names.
-/
import Derived.Test.YtkiemnnhcilhpaaGreatDoorMnDicKeeps3
set_option linter.unusedVariables false
section
set_option maxRecDepth 20000
set_option maxHeartbeats 1000000
namespace Go.Hb.iV
open Go.Hb.di
open Go.Proofs
open Go.Hb.eX Go.Hb.fH Go.Hb.ko Go.Hb.gF Go.Hb.lJ Go.Hb.g4 Go.Hb.gr Go.Hb.fS
theorem zg {kind:Nat} {s:Tx} (h:(eE kind s).2=0):(eE kind s).1≠0:=by
 unfold eE at h ⊢
 split
 · rename_i h0; rw [if_pos h0] at h; cases h
 · rename_i h0; exact h0
theorem zn {F:aI} {s:Tx} (h:(eE F.kind s).2≠0):eF F s= .error (eE F.kind s).2:=if_pos h
theorem zo {F:aI} {s:Tx} (h:(eE F.kind s).2=0) (h1:dw F (eE F.kind s).1=true):eF F s= .error 115:=by unfold eF; rw [if_neg (fun h2=>h2 h),if_pos h1]
theorem zp {F:aI} {s:Tx} (h:(eE F.kind s).2=0) (h1:dw F (eE F.kind s).1=false):eF F s= .ok (eE F.kind s).1:=by unfold eF; rw [if_neg (fun h2=>h2 h),if_neg (by rw [h1]; exact Bool.noConfusion)]
theorem Bx {F:aI} {rows:List Rw} {ln e:Nat} {r:List Tx} (h:eF F (r.getD 1 [])= .error e):gO F rows ln r= .error (ln,e):=by unfold gO; rw [h]
theorem By {F:aI} {rows:List Rw} {ln x:Nat} {r:List Tx} (h:eF F (r.getD 1 [])= .ok x):gO F rows ln r= .ok ({F with sp:=F.sp.set (cO.idxOf (r.getD 0 [])) x},rows):=by unfold gO; rw [h]
def ig:List Tx:= [gA,gJ,gS,hZ,iy,db,dQ,bQ]
theorem uB (hs:List Tx):ordered hs=true↔∀ k∈ig,k∉hs:=by
 unfold ordered
 rw [Bool.not_eq_true',List.any_eq_false]
 have hm:∀ k,k∈ig↔(k∈cO∨k=db∨k=dQ∨k=bQ):=by
  intro k
  simp only [ig,cO,List.mem_cons,List.not_mem_nil,or_false,or_assoc]
 constructor
 · intro h k hk a
   have :=h k a
   rw [decide_eq_true_iff] at this
   exact this ((hm k).1 hk)
 · intro h x i hd
   rw [decide_eq_true_iff] at hd
   exact h x ((hm x).2 hd) i
theorem Bg {F:aI} {rows:List Rw} {ln:Nat} {r:List Tx} (h:ei (r.getD 1 [])=false):jK F rows ln r= .error (ln,21):=if_pos h
theorem Bi {F:aI} {rows:List Rw} {ln:Nat} {r:List Tx} (h:ei (r.getD 1 [])=true):jK F rows ln r= .ok ({F with mC:=r.getD 1 []},rows):=if_neg (by rw [h]; exact Bool.noConfusion)
theorem BO {F:aI} {rows:List Rw} {ln:Nat} {r:List Tx} (h:(letE (r.getD 1 [])).2≠0):jO F rows ln r= .error (ln,(letE (r.getD 1 [])).2):=if_pos h
theorem BP {F:aI} {rows:List Rw} {ln:Nat} {r:List Tx} (h:(letE (r.getD 1 [])).2=0):jO F rows ln r= .ok ({F with tr:=(letE (r.getD 1 [])).1},rows):=if_neg (fun h2=>h2 h)
theorem Ak {F:aI} {rows:List Rw} {ln e:Nat} {r:List Tx} (h:dy (r.getD 1 []) 64= .error e):ib F rows ln r= .error (ln,e):=by unfold ib; rw [h]
theorem Al {F:aI} {rows:List Rw} {ln n:Nat} {r:List Tx} (h:dy (r.getD 1 []) 64= .ok n) (h0:n=0):ib F rows ln r= .error (ln,13):=by unfold ib; rw [h]; exact if_pos h0
theorem Am {F:aI} {rows:List Rw} {ln n:Nat} {r:List Tx} (h:dy (r.getD 1 []) 64= .ok n) (h0:n≠0):ib F rows ln r= .ok ({F with least:=n},rows):=by unfold ib; rw [h]; exact if_neg h0
theorem oG {F:aI} {seen:List Tx} {rows:List Rw} {ln:Nat} {r:List Tx} {k:Tx} (hk:k∈ig) (h:k∈seen):gT F seen rows ln r= .error (ln,113):=by
 unfold gT
 rw [if_pos]
 cases ho:ordered seen with
 | false =>rfl
 | true =>exact absurd h ((uB seen).1 ho k hk)
theorem z3 {F:aI} {seen:List Tx} {rows:List Rw} {ln:Nat} {r:List Tx} (h:ordered seen=true) (h0:fX (r.getD 1 [])=0):gT F seen rows ln r= .error (ln,114):=by unfold gT; rw [if_neg (by rw [h]; exact Bool.noConfusion),if_pos h0]
theorem qN {F:aI} {seen:List Tx} {rows:List Rw} {ln:Nat} {r:List Tx} (h:ordered seen=true) (h0:fX (r.getD 1 [])≠0):gT F seen rows ln r= .ok ({F with kind:=fX (r.getD 1 [])},rows):=by unfold gT; rw [if_neg (by rw [h]; exact Bool.noConfusion),if_neg h0]
def kinds:List Tx:= [mM,nB,oH]
theorem IG (s:Tx):((if s∈kinds then (kinds.idxOf s:Nat) else -1:Int))=(fX s:Nat) - 1:=by
 unfold fX kinds
 by_cases h1:s=mM
 · subst h1; decide
 · by_cases h2:s=nB
   · subst h2; decide
   · by_cases h3:s=oH
     · subst h3; decide
     · rw [if_neg (by simp [h1,h2,h3]),if_neg h1,if_neg h2,if_neg h3]; rfl
theorem IH (s:Tx):fX s≤3:=by
 unfold fX
 split
 · omega
 · split
   · omega
   · split <;> omega
theorem tH (B:Nat) (H:bO) (F:aI) (V:dW) (R:eI) (rows:List Rw) (ln:Nat) (seen:List Tx) (s:Tx) (w:World) (hF:cD w B H.fb H.mc F V) (i:bU w B H F R rows ln seen) (hk:F.kind=1∨F.kind=2∨F.kind=3) (hs:s.length≤1048576):
 dO Tryz.prog 96 (List.toArray [.pointer (some ⟨H.rb,0,none⟩),str s]) w (fun v w'=> ∃ x,eF F s= .ok x∧x≠0∧v=aO x∧dw F x=false∧Wk w w') (fun c w'=> ∃ e,eF F s= .error e∧c=fL 25 ln (e:Nat)∧Wk w w'):=by
 obtain ⟨ai,U,Y⟩:=i.tm
 refine gy Tryz.func96 rfl Tryz.ntmps96 rfl ?_
 refine sq (fun ab A=>rg rfl (p ak (nl (tn (A _ _ (sq (fun ac C=>rg rfl (p (aC (.pointer (some ⟨H.rb,0,none⟩)) rfl) ?_))))))))
 refine p (nc rfl) (p (fa eR rfl) (p (ld ew rfl ((aQ i.cells).trans rfl)) (p (nc rfl) (p (fa eA rfl) (p (fa nw rfl) (p (ld bT rfl ((aQ hF.cells).trans rfl)) (p (aC (str s) rfl) ?_)))))))
 refine e (cl Dk (JH F.kind s _ hk hs) rfl fun aj w17 J=> ?_)
 obtain ⟨rfl,hE17⟩:=J
 refine p mv (p (xt rfl rfl) (p (xt rfl rfl) (p ak (p ak (nl (tn (C _ _ (sq (fun ae E=> ?_)))))))))
 refine rg rfl (p (aC (.pointer (some ⟨H.rb,0,none⟩)) rfl) (p mv (eP rfl (cz kt (kG H.rb ln ((eE F.kind s).2:Nat) w17 (Wk.aE hE17 i.bM)) rfl fun al Z M=> ?_) (fun c w' a aa hF=>⟨_,zn (by have :=a.2.1; omega),a.1,by rw [a.2.2]; exact hE17⟩))))
 obtain ⟨rfl,q,rfl⟩:=M
 have q:(eE F.kind s).2=0:=by omega
 have hx0:=zg q
 refine nl (tn (E _ _ (sq (fun ag G=>rg rfl (p (aC (.pointer (some ⟨H.rb,0,none⟩)) rfl) (p (aC (.pointer (some ⟨H.rb,0,none⟩)) rfl) (p (nc rfl) (p (fa tE rfl) ?_))))))))
 refine p (ld n9 rfl (Wk.aE hE17 ((aQ i.cells).trans rfl))) (p mv (p (j7 ea kP mL (U.wk hE17) rfl rfl (⟨_,rfl⟩) (Y _ hx0)) (p (bf rfl rfl) (eP rfl (cz eZ (e9 H.rb ln _ 115 Z (Wk.aE hE17 i.bM) (by decide)) rfl fun am w31 O=> ?_) (fun c w' a aa hF=>⟨115,zo q (by have h:=a.2.1; rw [yi] at h; simpa using h),a.1,by rw [a.2.2]; exact hE17⟩)))))
 obtain ⟨rfl,j,rfl⟩:=O
 rw [yi] at j
 have j:dw F (eE F.kind s).1=false :=by simpa using j
 refine nl (tn (G _ _ (sq (fun ah I=>rg rfl (p mv (p ak (nl (tn (I _ _ ?_)))))))))
 refine rt (gh ?_)
 exact f1 rfl rfl (⟨_,zp q j,hx0,rfl,j,hE17⟩)
theorem o3 (B:Nat) (H:bO) (F:aI) (rows:List Rw) (ln:Nat) (seen:List Tx) (r:List Tx) (ah:Nat) (A:Option Addr) (E:Nat) (w:World) (C:St w B H F rows ln seen) (hT:Tg w ah 9 r.length (.slice A r.length E) (r.map str)) (hr:r.length=2) (hrl:∀ x∈r,x.length≤70000) (hsp:r.getD 0 []∈cO) (ar:F.sp.getD (cO.idxOf (r.getD 0 [])) 0=0):
 dO Tryz.prog 61 (List.toArray [.pointer (some ⟨H.rb,0,none⟩),.slice A r.length E]) w (fR B H seen (gO F rows ln r) w) (fQ B H (gO F rows ln r) w):=by
 obtain ⟨V,R,hF,q,hB⟩:=C
 have hTs:=hT.bH
 have aa:¬(H.rb=H.fb):=fun h=>by have h1:=q.cells; rw [h,hF.cells] at h1; cases h1
 have hr1:(r.getD 1 []).length≤70000:=hrl _ (c6 (by omega))
 have ab:¬(bk A=H.fb):=Tg.oM hT (bp (by omega)) hF.cells (by decide)
 obtain ⟨aF,O,ac⟩:=q.tm
 obtain ⟨aD,az,aB⟩:=q.sm
 have hix:cO.idxOf (r.getD 0 []) < 5:=List.idxOf_lt_length_iff.2 hsp
 refine gy Tryz.func61 rfl Tryz.ntmps61 rfl ?_
 refine sq (fun av aj=>rg rfl (p (aC (.pointer (some ⟨H.rb,0,none⟩)) rfl) (p (aC (.slice A r.length E) rfl) (p (aJ bE rfl rfl (by omega) (aw.ok (hTs.2) (bp (by omega)))) (p (ld bz rfl (bu.get (i:=1) hTs.2 (by omega))) (eP rfl (cz sG (tH B H F V R rows ln seen (r.getD 1 []) w hF q hB.kd (by omega)) rfl fun v9 w9 hR9=> ?_) (fun c w' an aH hF=>by obtain ⟨e,he,h,h2⟩:=an; exact ⟨ln,e,Bx he,h,Wk.mw h2⟩)))))))
 obtain ⟨x,au,hx0,rfl,ag,j⟩:=hR9
 have hF9:=hF.wk j
 have hR9:=q.wk j
 refine p ak (nl (tn (aj _ _ (sq (fun ax am=>rg rfl (p (aC (.pointer (some ⟨H.rb,0,none⟩)) rfl) (p (nc rfl) (p (fa tE rfl) ?_))))))))
 refine p (ld n9 rfl (Wk.aE j ((aQ q.cells).trans rfl))) (p mv (p (j7 ea kP mL (O.wk j) rfl rfl (⟨_,rfl⟩) (show _=Value.int .i64 0 from (ac x hx0).trans (by rw [ag]; rfl))) (p (bc ((1:Nat):Int) rfl rfl (aR (by omega) (by omega))) (e (nQ ea mL (O.wk j) rfl rfl rfl (⟨_,rfl⟩) fun s G ao=> ?_)))))
 have hR1:=hR9.oL (F':= {F with sp:=F.sp.set (cO.idxOf (r.getD 0 [])) x}) G ao rfl (BL ag ac (FW (by rw [hF.ef]; exact hix) ar))
 have hF1:=hF9.oL hR9 G
 have hT1:=(hT.wk j).md G (fun k hk cur z hg=>by subst hk; exact (O.wk j).lj hg)
 have hT1s:=hT1.bH
 refine nl (tn (am _ _ ?_))
 have a:(fun w'=>Md (fun k=>k=H.fb) s w') s.drew:=(Md.refl _ _).drew
 refine bD (fun w'=>Md (fun k=>k=H.fb) s w') rfl wide a (hp 0 rfl (by kernel_rfl) (fun _ _=>aC (.pointer (some ⟨H.rb,0,none⟩)) rfl) a (hp 1 rfl (by kernel_rfl) (fun _ _=>nc rfl) a (hp 2 rfl (by kernel_rfl) (fun _ _=>fa eR rfl) a (hp 3 rfl (by kernel_rfl) (fun w' C=>ld ew rfl (Md.aE C ((aQ hR1.cells).trans rfl) (by first | exact aa | exact ab))) a (hp 5 rfl (by kernel_rfl) (fun _ _=>aC (.slice A r.length E) rfl) a (hp 6 rfl (by kernel_rfl) (fun _ _=>aJ bE rfl rfl (by omega) (aw.ok (hT1s.2) (bp (by omega)))) a (hp 7 rfl (by kernel_rfl) (fun w' C=>ld bz rfl (Md.aE C (bu.get (i:=0) hT1s.2 (by omega)) (by first | exact aa | exact ab))) a ?_)))))))
 refine hp 9 rfl (by kernel_rfl) (fun _ _=>mv) a (hp 10 rfl (by kernel_rfl) (fun _ _=>nc rfl) a (hp 11 rfl (by kernel_rfl) (fun _ _=>fa eA rfl) a (hp 12 rfl (by kernel_rfl) (fun _ _=>fa zc rfl) a (he 4 rfl (by kernel_rfl) (nb (L:=cO.map str) dV rfl rfl rfl rfl fun U w21 ay J ai=> ?_)))))
 have hS21:bu w21.heap (some ⟨U,0,none⟩) cO:=aw.cU ⟨_,ai⟩
 have hE21:=ff J.md
 have Z:(fun w'=>Md (fun k=>k=H.fb) s w') w21:=a.trans' J.md (fun _ _ h=>h.elim)
 refine ⟨Z,?_⟩
 refine he 8 rfl (by kernel_rfl) (cl pV (zU cO (some ⟨U,0,none⟩) 5 (r.getD 0 []) _ hS21 (by decide)) rfl fun aG w25 ap=> ?_)
 obtain ⟨ae,rfl⟩:=ap
 rw [if_pos hsp] at ae
 subst ae
 have M:(fun w'=>Md (fun k=>k=H.fb) s w') w25:=Z
 refine ⟨M,?_⟩
 refine hp 13 rfl (by kernel_rfl) (fun _ _=>iw r7 rfl rfl (by omega)) M (he 14 rfl (by kernel_rfl) (cj dY rfl rfl (v:=aO x) rfl (J.md.aA hF1.cells) (by show _ < 14; omega) fun w7 I Y=> ?_))
 rw [GP (i:=cO.idxOf (r.getD 0 [])) hF.ef hix (by omega)] at Y
 have aq:(fun w'=>Md (fun k=>k=H.fb) s w') w7:=M.trans' I (fun _ _ h=>h)
 refine ⟨aq,?_⟩
 refine hn (by kernel_rfl) (gh ?_)
 refine f0 rfl ?_
 have hF2:=(hF1.wk hE21).put (F':= {F with sp:=F.sp.set (cO.idxOf (r.getD 0 [])) x}) I Y rfl rfl rfl rfl (by rw [List.length_set]; exact hF.ef)
 exact ⟨rfl,_,rows,ln,By au,⟨V,R,hF2,(hR1.wk hE21).fb (hF1.wk hE21) I,⟨hB.len,hB.sl,hB.row,hB.kd,hB.al⟩⟩,((Wk.mw j).trans (dN.mt hR9 G)).trans ((Wk.mw hE21).trans (dN.fb (hF1.wk hE21) I))⟩
theorem Ey (B:Nat) (H:bO) (F:aI) (rows:List Rw) (ln:Nat) (seen:List Tx) (r:List Tx) (J:Nat) (j:Option Addr) (A:Nat) (w:World) (s:St w B H F rows ln seen) (hT:Tg w J 9 r.length (.slice j r.length A) (r.map str)) (hr:r.length=2) (hrl:∀ x∈r,x.length≤70000):
 dO Tryz.prog 59 (List.toArray [.pointer (some ⟨H.rb,0,none⟩),.slice j r.length A]) w (fR B H seen (jK F rows ln r) w) (fQ B H (jK F rows ln r) w):=by
 obtain ⟨V,R,hF,q,hB⟩:=s
 have hTs:=hT.bH
 have G:¬(H.rb=H.fb):=fun h=>by have h1:=q.cells; rw [h,hF.cells] at h1; cases h1
 have hr1:(r.getD 1 []).length≤70000:=hrl _ (c6 (by omega))
 have I:¬(bk j=H.fb):=Tg.oM hT (bp (by omega)) hF.cells (by decide)
 obtain ⟨ah,ac,ae⟩:=q.tm
 obtain ⟨ag,aa,ab⟩:=q.sm
 refine gy Tryz.func59 rfl Tryz.ntmps59 rfl ?_
 refine sq (fun Z O=>rg rfl (p (aC (.pointer (some ⟨H.rb,0,none⟩)) rfl) (p (aC (.slice j r.length A) rfl) (p (aJ bE rfl rfl (by omega) (aw.ok (hTs.2) (bp (by omega)))) (p (ld bz rfl (bu.get (i:=1) hTs.2 (by omega))) (eP rfl (cz sF (uK H.rb ln (r.getD 1 []) w q.bM (by omega)) rfl fun ai w8 hR8=> ?_) (fun c w' E aj hF=>⟨ln,21,Bg E.2.1,E.1,Wk.mw E.2.2⟩)))))))
 obtain ⟨rfl,Y,C⟩:=hR8
 have hF8:=hF.wk C
 have hR8:=q.wk C
 have hT8s:=(hT.wk C).bH
 refine nl (tn (O _ _ ?_))
 have a:(fun w'=>Md (fun k=>k=H.fb) w8 w') w8.drew:=(Md.refl _ _).drew
 refine bD (fun w'=>Md (fun k=>k=H.fb) w8 w') rfl wide a (hp 0 rfl (by kernel_rfl) (fun _ _=>aC (.pointer (some ⟨H.rb,0,none⟩)) rfl) a (hp 1 rfl (by kernel_rfl) (fun _ _=>nc rfl) a (hp 2 rfl (by kernel_rfl) (fun _ _=>fa eR rfl) a (hp 3 rfl (by kernel_rfl) (fun w' s=>ld ew rfl (Md.aE s ((aQ hR8.cells).trans rfl) (by first | exact G | exact I))) a (hp 4 rfl (by kernel_rfl) (fun _ _=>aC (.slice j r.length A) rfl) a (hp 5 rfl (by kernel_rfl) (fun _ _=>aJ bE rfl rfl (by omega) (aw.ok (hT8s.2) (bp (by omega)))) a (hp 6 rfl (by kernel_rfl) (fun w' s=>ld bz rfl (Md.aE s (bu.get (i:=1) hT8s.2 (by omega)) (by first | exact G | exact I))) a ?_)))))))
 refine hp 7 rfl (by kernel_rfl) (fun _ _=>nc rfl) a (hp 8 rfl (by kernel_rfl) (fun _ _=>fa eA rfl) a (hp 9 rfl (by kernel_rfl) (fun _ _=>fa G8 rfl) a (he 10 rfl (by kernel_rfl) (cj iN rfl rfl (v:=str (r.getD 1 [])) rfl hF8.cells (by show _ < 14; omega) fun w9 hM9 M=> ?_))))
 have hM9:=ff hM9
 have U:(fun w'=>Md (fun k=>k=H.fb) w8 w') w9:=hM9
 refine ⟨U,?_⟩
 refine hn (by kernel_rfl) (gh ?_)
 refine f0 rfl ?_
 have hF2:=hF8.put (F':= {F with mC:=r.getD 1 []}) hM9 M rfl rfl rfl rfl hF.ef
 exact ⟨rfl,_,rows,ln,Bi Y,⟨V,R,hF2,(hR8.fb hF8 hM9).congr rfl (fun _=>rfl),⟨hB.len,hB.sl,hB.row,hB.kd,hB.al⟩⟩,(Wk.mw C).trans (dN.fb hF8 hM9)⟩
theorem LU (B:Nat) (H:bO) (F:aI) (rows:List Rw) (ln:Nat) (seen:List Tx) (r:List Tx) (E:Nat) (a:Option Addr) (s:Nat) (w:World) (M:St w B H F rows ln seen) (hT:Tg w E 9 r.length (.slice a r.length s) (r.map str)) (hr:r.length=2) (hrl:∀ x∈r,x.length≤70000):
 dO Tryz.prog 60 (List.toArray [.pointer (some ⟨H.rb,0,none⟩),.slice a r.length s]) w (fR B H seen (jO F rows ln r) w) (fQ B H (jO F rows ln r) w):=by
 obtain ⟨V,R,hF,q,hB⟩:=M
 have hTs:=hT.bH
 have Y:¬(H.rb=H.fb):=fun h=>by have h1:=q.cells; rw [h,hF.cells] at h1; cases h1
 have hr1:(r.getD 1 []).length≤70000:=hrl _ (c6 (by omega))
 have Z:¬(bk a=H.fb):=Tg.oM hT (bp (by omega)) hF.cells (by decide)
 obtain ⟨ah,ac,ae⟩:=q.tm
 obtain ⟨ag,aa,ab⟩:=q.sm
 refine gy Tryz.func60 rfl Tryz.ntmps60 rfl ?_
 refine sq (fun O I=>rg rfl (p (aC (.slice a r.length s) rfl) (p (aJ bE rfl rfl (by omega) (aw.ok (hTs.2) (bp (by omega)))) (p (ld bz rfl (bu.get (i:=1) hTs.2 (by omega))) (e (cl Ev (IU (r.getD 1 []) _ (by omega)) rfl fun v10 w10 hR10=> ?_))))))
 obtain ⟨rfl,j⟩:=hR10
 have hF8:=hF.wk j
 have hR8:=q.wk j
 refine p mv (p (xt rfl rfl) (p (xt rfl rfl) (p ak (p ak (nl (tn (I _ _ (sq (fun U J=> ?_)))))))))
 refine rg rfl (p (aC (.pointer (some ⟨H.rb,0,none⟩)) rfl) (p mv (eP rfl (cz kt (kG H.rb ln ((letE (r.getD 1 [])).2:Nat) w10 hR8.bM) rfl fun ai w15 hR15=> ?_) (fun c w' A aj hF=>⟨ln,_,BO (by have :=A.2.1; omega),A.1,by rw [A.2.2]; exact Wk.mw j⟩))))
 obtain ⟨rfl,C,rfl⟩:=hR15
 have C:(letE (r.getD 1 [])).2=0:=by omega
 refine nl (tn (J _ _ (rg rfl (p (aC (.pointer (some ⟨H.rb,0,none⟩)) rfl) (p (nc rfl) (p (fa eR rfl) (p (ld ew rfl ((aQ hR8.cells).trans rfl)) (p mv ?_))))))))
 refine p (nc rfl) (p (fa eA rfl) (p (fa G9 rfl) (e (cj iN rfl rfl (v:=str (letE (r.getD 1 [])).1) rfl hF8.cells (by show _ < 14; omega) fun w9 hM9 G=>nl (gh ?_)))))
 refine f0 rfl ?_
 have hF2:=hF8.put (F':= {F with tr:=(letE (r.getD 1 [])).1}) hM9 G rfl rfl rfl rfl hF.ef
 exact ⟨rfl,_,rows,ln,BP C,⟨V,R,hF2,(hR8.fb hF8 hM9).congr rfl (fun _=>rfl),⟨hB.len,hB.sl,hB.row,hB.kd,hB.al⟩⟩,(Wk.mw j).trans (dN.fb hF8 hM9)⟩
theorem IM (B:Nat) (H:bO) (F:aI) (rows:List Rw) (ln:Nat) (seen:List Tx) (r:List Tx) (J:Nat) (A:Option Addr) (C:Nat) (w:World) (q:St w B H F rows ln seen) (hT:Tg w J 9 r.length (.slice A r.length C) (r.map str)) (hr:r.length=2) (hrl:∀ x∈r,x.length≤70000):
 dO Tryz.prog 62 (List.toArray [.pointer (some ⟨H.rb,0,none⟩),.slice A r.length C]) w (fR B H seen (ib F rows ln r) w) (fQ B H (ib F rows ln r) w):=by
 obtain ⟨V,R,hF,a,hB⟩:=q
 have hTs:=hT.bH
 have G:¬(H.rb=H.fb):=fun h=>by have h1:=a.cells; rw [h,hF.cells] at h1; cases h1
 have hr1:(r.getD 1 []).length≤70000:=hrl _ (c6 (by omega))
 have I:¬(bk A=H.fb):=Tg.oM hT (bp (by omega)) hF.cells (by decide)
 obtain ⟨ai,ae,ag⟩:=a.tm
 obtain ⟨ah,ab,ac⟩:=a.sm
 refine gy Tryz.func62 rfl Tryz.ntmps62 rfl ?_
 refine sq (fun aa M=> ?_)
 have hS0:(fun w'=>Md (fun k=>k=H.fb) w w') w.drew:=(Md.refl _ _).drew
 refine bD (fun w'=>Md (fun k=>k=H.fb) w w') rfl wide hS0 (hp 0 rfl (by kernel_rfl) (fun _ _=>aC (.pointer (some ⟨H.rb,0,none⟩)) rfl) hS0 (hp 1 rfl (by kernel_rfl) (fun _ _=>nc rfl) hS0 (hp 2 rfl (by kernel_rfl) (fun _ _=>fa eR rfl) hS0 (hp 3 rfl (by kernel_rfl) (fun w' q=>ld ew rfl (Md.aE q ((aQ a.cells).trans rfl) (by first | exact G | exact I))) hS0 (hp 4 rfl (by kernel_rfl) (fun _ _=>aC (.pointer (some ⟨H.rb,0,none⟩)) rfl) hS0 (hp 5 rfl (by kernel_rfl) (fun _ _=>aC (.slice A r.length C) rfl) hS0 (hp 6 rfl (by kernel_rfl) (fun _ _=>aJ bE rfl rfl (by omega) (aw.ok (hTs.2) (bp (by omega)))) hS0 ?_)))))))
 refine hp 7 rfl (by kernel_rfl) (fun w' q=>ld bz rfl (Md.aE q (bu.get (i:=1) hTs.2 (by omega)) (by first | exact G | exact I))) hS0 (nA 8 rfl (by kernel_rfl) rfl (cz kX (q5 H.rb ln (r.getD 1 []) 64 w.drew a.bM (by omega) (by omega)) rfl fun cC w12 O=> ?_) (fun c w' j Z hF=>by obtain ⟨e,he,h,h2⟩:=j; exact ⟨ln,e,Ak he,h,Wk.mw (ff h2)⟩))
 obtain ⟨n,hnx,rfl,hE12⟩:=O
 have hE12:=ff hE12
 have hF8:=hF.wk hE12
 have hR8:=a.wk hE12
 have s:(fun w'=>Md (fun k=>k=H.fb) w w') w12:=Md.mono hE12 (fun _ _ h=>h.elim)
 refine ⟨s,?_⟩
 refine hp 9 rfl (by kernel_rfl) (fun _ _=>nc rfl) s (hp 10 rfl (by kernel_rfl) (fun _ _=>fa eA rfl) s (hp 11 rfl (by kernel_rfl) (fun _ _=>fa tD rfl) s (he 12 rfl (by kernel_rfl) (cj fV rfl rfl (v:= .int .i64 (n:Nat)) rfl hF8.cells (by show _ < 14; omega) fun w9 hM9 E=> ?_))))
 have hR9:=hR8.fb hF8 hM9
 have Y:(fun w'=>Md (fun k=>k=H.fb) w w') w9:=s.trans' hM9 (fun _ _ h=>h)
 refine ⟨Y,?_⟩
 refine hn (by kernel_rfl) (tn (M _ _ (rg rfl (p (aC (.pointer (some ⟨H.rb,0,none⟩)) rfl) (p (aC (.pointer (some ⟨H.rb,0,none⟩)) rfl) (p (nc rfl) (p (fa eR rfl) (p (ld ew rfl ((aQ hR9.cells).trans rfl)) ?_))))))))
 refine p (nc rfl) (p (fa eA rfl) (p (fa tD rfl) (p (ld bT rfl ((aQ E).trans rfl)) (p (gt rfl rfl) (eP rfl (cz eZ (e9 H.rb ln _ 13 w9 hR9.bM (by decide)) rfl fun aj w26 U=> ?_) (fun c w' j Z hF=>by have h0:=of_decide_eq_false j.2.1; exact ⟨ln,13,Al hnx (by omega),j.1,by rw [j.2.2]; exact (Wk.mw hE12).trans (dN.fb hF8 hM9)⟩))))))
 obtain ⟨rfl,hx26,rfl⟩:=U
 have hx26:=of_decide_eq_true hx26
 refine nl (gh ?_)
 refine f0 rfl ?_
 have hF2:=hF8.put (F':= {F with least:=n}) hM9 E rfl rfl rfl rfl hF.ef
 exact ⟨rfl,_,rows,ln,Am hnx (by omega),⟨V,R,hF2,hR9.congr rfl (fun _=>rfl),⟨hB.len,hB.sl,hB.row,hB.kd,hB.al⟩⟩,(Wk.mw hE12).trans (dN.fb hF8 hM9)⟩
theorem II (B:Nat) (H:bO) (F:aI) (rows:List Rw) (ln:Nat) (seen:List Tx) (r:List Tx) (ao:Nat) (E:Option Addr) (I:Nat) (w:World) (G:St w B H F rows ln seen) (hT:Tg w ao 9 r.length (.slice E r.length I) (r.map str)) (hr:r.length=2) (hrl:∀ x∈r,x.length≤70000):
 dO Tryz.prog 58 (List.toArray [.pointer (some ⟨H.rb,0,none⟩),.slice E r.length I]) w (fR B H seen (gT F seen rows ln r) w) (fQ B H (gT F seen rows ln r) w):=by
 obtain ⟨V,R,hF,J,hB⟩:=G
 have hTs:=hT.bH
 have ah:¬(H.rb=H.fb):=fun h=>by have h1:=J.cells; rw [h,hF.cells] at h1; cases h1
 have hr1:(r.getD 1 []).length≤70000:=hrl _ (c6 (by omega))
 have ai:¬(bk E=H.fb):=Tg.oM hT (bp (by omega)) hF.cells (by decide)
 obtain ⟨a7,a4,a5⟩:=J.tm
 obtain ⟨a6,aU,aV⟩:=J.sm
 refine gy Tryz.func58 rfl Tryz.ntmps58 rfl ?_
 refine sq (fun aX au=>sq (fun aY av=>rg rfl (e (nb (L:=ig.map str) dV rfl rfl rfl rfl fun Y w6 hb6 aD hB6=> ?_))))
 have ae:bu w6.heap (some ⟨Y,0,none⟩) ig:=aw.cU ⟨_,hB6⟩
 have s:Wk w w6:=aD.md
 have hF6:=hF.wk s
 have hR6:=J.wk s
 have hT6s:=(hT.wk s).bH
 have hsf6:=aU.wk s
 have a3:ig.length=8:=rfl
 refine p (ba dx rfl rfl) (p mv (nl (tn (av _ _ (aA (lp (fun Z C wI=> ∃ (i:Nat),(i≤8)∧(∀ j,j < i→ig.getD j []∉seen)∧(wI=w6)∧(C 0= .pointer (some ⟨H.rb,0,none⟩))∧(C 1= .slice E r.length I)∧(C 6= .slice (some ⟨Y,0,none⟩) 8 8)∧(C 7= .int .i64 (8:Nat))∧(C 8= .int .i64 (i:Nat))∧(8 - i=Z)) _ ⟨0,(by omega),((fun j ag=>by omega)),rfl,rfl,rfl,rfl,rfl,rfl,rfl⟩ ?_))))))
 rintro Z C wI ⟨i,hi,aj,ar,aN,aO,aP,aS,aT,rfl⟩
 refine fx 0 aN (fx 1 aO (fx 6 aP (fx 7 aS (fx 8 aT ?_))))
 subst ar
 refine sq (fun aZ ax=>rg rfl (p (lt rfl rfl) (nl (tn (ax _ _ (sq (fun a0 ay=>cd rfl (fun aM=> ?_) (fun aM=> ?_))))))))
 refine az (tn (ay _ _ (sq (fun ap M=>aA (sq (fun a1 aB=>rg rfl (p (aJ bE rfl rfl (by omega) (aw.ok (ae) (bp (by omega)))) (p (ld bz rfl (bu.get (i:=i) ae (by omega))) ?_))))))))
 refine p ak (nl (tn (aB _ _ (rg rfl (p (aC (.pointer (some ⟨H.rb,0,none⟩)) rfl) (p (aC (.pointer (some ⟨H.rb,0,none⟩)) rfl) (p (nc rfl) (p (fa nz rfl) ?_))))))))
 refine p (ld na rfl ((aQ hR6.cells).trans rfl)) (p mv (p (j7 mh kP fw (hsf6) rfl rfl (⟨_,rfl⟩) (aV _)) (p (bf rfl rfl) (eP rfl (cz eZ (e9 H.rb ln _ 113 wI hR6.bM (by decide)) rfl fun v20 w20 aF=> ?_) (fun c w' q aW hF=>⟨ln,113,oG (k:=ig.getD i []) (c6 (by omega)) (by have h:=of_decide_eq_false q.2.1; exact Classical.not_not.1 fun h2=>h (by have :=List.count_eq_zero.2 h2; omega)),q.1,by rw [q.2.2]; exact Wk.mw s⟩)))))
 obtain ⟨rfl,O,rfl⟩:=aF
 have O:ig.getD i []∉seen:=List.count_eq_zero.1 (by have :=of_decide_eq_true O; omega)
 refine nl (bn (tn (M _ _ (rg rfl (p (ad rfl rfl (bm (by omega))) (p mv (nl (tn ?_))))))))
 exact ⟨_,by omega,i+1,(by omega),((fun j ag=>by rcases Nat.lt_or_ge j i with h | h <;> first | exact aj j h | (rw [show j=i by omega]; exact O))),rfl,rfl,rfl,rfl,rfl,rfl,rfl⟩
 refine ext (te _ (te _ (be (tn (au _ _ (sq (fun ap M=> ?_)))))))
 have am:ordered seen=true :=(uB seen).2 fun k hk=>by obtain ⟨j,ag,rfl⟩:=lh [] hk; exact aj j (by omega)
 have a:(fun w'=>Md (fun k=>k=H.fb) wI w') wI.drew:=(Md.refl _ _).drew
 refine bD (fun w'=>Md (fun k=>k=H.fb) wI w') rfl wide a (hp 0 rfl (by kernel_rfl) (fun _ _=>aC (.pointer (some ⟨H.rb,0,none⟩)) rfl) a (hp 1 rfl (by kernel_rfl) (fun _ _=>nc rfl) a (hp 2 rfl (by kernel_rfl) (fun _ _=>fa eR rfl) a (hp 3 rfl (by kernel_rfl) (fun w' G=>ld ew rfl (Md.aE G ((aQ hR6.cells).trans rfl) (by first | exact ah | exact ai))) a (hp 5 rfl (by kernel_rfl) (fun _ _=>aC (.slice E r.length I) rfl) a (hp 6 rfl (by kernel_rfl) (fun _ _=>aJ bE rfl rfl (by omega) (aw.ok (hT6s.2) (bp (by omega)))) a (hp 7 rfl (by kernel_rfl) (fun w' G=>ld bz rfl (Md.aE G (bu.get (i:=1) hT6s.2 (by omega)) (by first | exact ah | exact ai))) a ?_)))))))
 refine he 4 rfl (by kernel_rfl) (nb (L:=kinds.map str) dV rfl rfl rfl rfl fun U w26 a2 ab aq=> ?_)
 have aK:bu w26.heap (some ⟨U,0,none⟩) kinds:=aw.cU ⟨_,aq⟩
 have hE26:=ff ab.md
 have ac:(fun w'=>Md (fun k=>k=H.fb) wI w') w26:=a.trans' ab.md (fun _ _ h=>h.elim)
 refine ⟨ac,?_⟩
 refine he 8 rfl (by kernel_rfl) (cl pV (zU kinds (some ⟨U,0,none⟩) 3 (r.getD 1 []) _ aK (by decide)) rfl fun v30 w30 aG=> ?_)
 obtain ⟨an,rfl⟩:=aG
 rw [IG] at an
 subst an
 have hkl:=IH (r.getD 1 [])
 have A:(fun w'=>Md (fun k=>k=H.fb) wI w') w30:=ac
 refine ⟨A,?_⟩
 refine hp 9 rfl (by kernel_rfl) (fun _ _=>bc ((fX (r.getD 1 []):Nat):Int) rfl rfl (aR (by omega) (by omega))) A (hp 10 rfl (by kernel_rfl) (fun _ _=>nc rfl) A (hp 11 rfl (by kernel_rfl) (fun _ _=>fa eA rfl) A (hp 12 rfl (by kernel_rfl) (fun _ _=>fa nw rfl) A (he 13 rfl (by kernel_rfl) (cj fV rfl rfl (v:= .int .i64 (fX (r.getD 1 []):Nat)) rfl ((hF6.wk hE26).cells) (by show _ < 14; omega) fun w9 hM9 aa=> ?_)))))
 have hF26:=hF6.wk hE26
 have hR9:=(hR6.wk hE26).fb hF26 hM9
 have hMw:=((Wk.mw s).trans (Wk.mw hE26)).trans (dN.fb hF26 hM9)
 have aL:(fun w'=>Md (fun k=>k=H.fb) wI w') w9:=A.trans' hM9 (fun _ _ h=>h)
 refine ⟨aL,?_⟩
 refine hn (by kernel_rfl) (tn (M _ _ (rg rfl (p (aC (.pointer (some ⟨H.rb,0,none⟩)) rfl) (p (aC (.pointer (some ⟨H.rb,0,none⟩)) rfl) (p (nc rfl) (p (fa eR rfl) (p (ld ew rfl ((aQ hR9.cells).trans rfl)) ?_))))))))
 refine p (nc rfl) (p (fa eA rfl) (p (fa nw rfl) (p (ld bT rfl ((aQ aa).trans rfl)) (p (gt rfl rfl) (eP rfl (cz eZ (e9 H.rb ln _ 114 w9 hR9.bM (by decide)) rfl fun a8 w45 aH=> ?_) (fun c w' q aW hF=>by have h0:=of_decide_eq_false q.2.1; exact ⟨ln,114,z3 am (by omega),q.1,by rw [q.2.2]; exact hMw⟩))))))
 obtain ⟨rfl,hx45,rfl⟩:=aH
 have hx45:=of_decide_eq_true hx45
 refine nl (gh ?_)
 refine f0 rfl ?_
 have hF2:=hF26.put (F':= {F with kind:=fX (r.getD 1 [])}) hM9 aa rfl rfl rfl rfl hF.ef
 exact ⟨rfl,_,rows,ln,qN am (by omega),⟨V,R,hF2,hR9.congr rfl (fun _=>rfl),⟨hB.len,hB.sl,hB.row,(by show fX (r.getD 1 [])=1∨fX (r.getD 1 [])=2∨fX (r.getD 1 [])=3; omega),hB.al⟩⟩,hMw⟩
end Go.Hb.iV
end
section
set_option maxRecDepth 20000
set_option maxHeartbeats 1000000
namespace Go.Hb.kS
open Go.Hb.di
open Go.Proofs
open Go.Hb.fS
theorem xV {h:Array Obj} {b:Nat} {f:UInt8→Bool} (hB:bG h b (dj f)) (c:UInt8):Hb.aE h b (0 +((c.toNat / 64:Nat):Int).toNat*1)=some (.int .u64 (dC f (c.toNat / 64))):=by
 have hc:=UInt8.toNat_lt c
 rw [hB.aE,show 0 +((c.toNat / 64:Nat):Int).toNat*1=c.toNat / 64 from by omega]; exact sO f (by omega)
theorem Fa {h:Array Obj} {b:Nat} {f:UInt8→Bool} {c:UInt8} (hB:bG h b ((dj f).set (0 +((c.toNat / 64:Nat):Int).toNat*1) (.int .u64 ((dC f (c.toNat / 64) ||| 2 ^ (c.toNat % 64):Nat):Int)))):bG h b (dj (fun x=>f x || decide (x=c))):=by
 rw [show 0 +((c.toNat / 64:Nat):Int).toNat*1=c.toNat / 64 from by omega,E8] at hB; exact hB
theorem E9 {f g:UInt8→Bool} (h:∀ b,f b=g b):dj f=dj g:=by rw [show f=g from funext h]
theorem Ic {l:List UInt8} {i:Nat} (h:i < l.length) (x:UInt8):(decide (x∈l.take i) || decide (x=l.getD i 0))=decide (x∈l.take (i+1)):=by
 rw [eh l i 0 h,← Bool.decide_or]
 exact decide_eq_decide.2 (by rw [List.mem_append,List.mem_singleton])
theorem uD {w:World} {B e n cp i:Nat} {a:Option Addr} {l:List UInt8} (h:w.ownsRow B e 1 (.slice a n cp) n (U8 l)) (hi:i≤n) (hn:0 < n):w.ownsRow B e 1 (.slice a i cp) i (U8 (l.take i)):=by
 have ha:a≠none:=by
  rintro rfl
  rcases h.2 with ⟨_,h5⟩ | ⟨g,cap,cur,h4,_⟩
  · omega
  · simp at h4
 have :=AG h hi ha
 rw [Nat.mul_one] at this
 unfold U8 at*
 rwa [List.map_take]
theorem JP {w:World} {B e n cp:Nat} {a:Option Addr} {xs:List Value} (h:w.ownsRow B e 1 (.slice a n cp) n xs) (hn:0 < n):∃ gg,a=some ⟨gg,0,none⟩:=by
 rcases h.2 with ⟨_,h5⟩ | ⟨g,cap,cur,h4,_⟩
 · omega
 · simp only [Value.slice.injEq] at h4; exact ⟨g,h4.1⟩
theorem LY {w:World} {B e n cp j:Nat} {a:Option Addr} {l:List UInt8} (h:w.ownsRow B e 1 (.slice a n cp) n (U8 l)):aw w.heap (ee a cp j 1) (U8 (l.drop j)):=by
 have h2:=(aM h).2.drop (cap:=cp) (k:=j) (size:=1) (by have h1:=h.1; have h3:=(aM h).1; omega)
 rw [Nat.mul_one] at h2
 unfold U8 at*
 rwa [List.map_drop]
theorem vt {w:World} {B e n:Nat} {v:Value} {l:List UInt8} (h:w.ownsRow B e 1 v n (U8 l)):l.length=n:=by have :=h.1; rw [pz] at this; omega
theorem AQ (b:Nat) (c:UInt8) (f:UInt8→Bool) (w:World) (hB:bG w.heap b (dj f)):
 aU Tryz.prog 136 (List.toArray [aH b,.int .u8 c.toNat]) w (fun v w'=>v= .tuple #[]∧bG w'.heap b (dj (fun x=>f x || decide (x=c)))∧Md (fun q=>q=b) w w'):=by
 have hc8:=UInt8.toNat_lt c
 refine enter Tryz.func136 rfl Tryz.ntmps136 rfl ?_
 have hS0:(fun w'=>Wk w w') w.drew:=(Md.refl _ _).drew
 refine dH (fun w'=>Wk w w') 12 rfl wide hS0 (a4 0 rfl (aH b) hS0 (a4 1 rfl (.int .u8 c.toNat) hS0 (a6 2 rfl (fun _=>shr rfl rfl (by decide) (Bl c)) (fun _=>hS0) (a6 3 rfl (fun _=>nc rfl) (fun _=>hS0) (a6 4 rfl (fun _=>iw my rfl rfl (by omega)) (fun _=>hS0) (cT 5 rfl (fun w' j=>ld m7 rfl (Wk.aE j (xV hB c))) hS0 (a4 6 rfl (.int .u8 c.toNat) hS0 ?_)))))))
 refine a6 7 rfl (fun _=>pM rfl rfl (wu c)) (fun _=>hS0) (a6 8 rfl (fun _=>shl rfl rfl (by omega) (KV (by omega))) (fun _=>hS0) (a6 9 rfl (fun _=>wS rfl rfl (JJ (nT _ _) (Nat.pow_lt_pow_right (by decide) (by omega)))) (fun _=>hS0) (a6 10 rfl (fun _=>nc rfl) (fun _=>hS0) (a6 11 rfl (fun _=>iw my rfl rfl (by omega)) (fun _=>hS0) (cE 12 rfl (by kernel_rfl) (by kernel_rfl) (st FL rfl rfl (rfl) (hS0.B hB) (by rw [p5]; omega) fun p i a=> ?_))))))
 have hB0:=Fa a
 refine dG (by kernel_rfl) ?_
 refine f0 rfl ?_
 exact ⟨rfl,hB0,Md.trans (Md.refl _ _).drew i⟩
theorem HG (f:UInt8→Bool) (c:UInt8) (w:World):
 aU Tryz.prog 153 (List.toArray [.agg (dj (f)).toArray,.int .u8 c.toNat]) w (fun v w'=>v= .bool (f c)∧Wk w w'):=by
 have hc8:=UInt8.toNat_lt c
 refine enter Tryz.func153 rfl Tryz.ntmps153 rfl ?_
 refine U (fun _ a=>(e (jt rfl fun q s hb2 j hB2=>aj (((a _ _ (U (fun _ i=> ?_))))))))
 refine ag (.int .u8 c.toNat) (p (shr rfl rfl (by decide) (Bl c)) (p (iw my rfl rfl (by omega)) (p (ld m7 rfl (xV hB2 c)) (ag (.int .u8 c.toNat) (p (pM rfl rfl (wu c)) (p (shr rfl rfl (by omega) (Lb _ (by omega))) (p (pM rfl rfl (CQ (Nat.lt_of_le_of_lt (Nat.div_le_self _ _) (nT _ _)))) ?_)))))))
 exact p (bf rfl rfl) (aj (((i _ _ (rt (f1 rfl rfl (⟨congrArg Value.bool (Mm f c),j.md⟩)))))))
theorem uC (f:UInt8→Bool) (w:World):
 aU Tryz.prog 135 (List.toArray [.agg (dj (f)).toArray]) w (fun v w'=>v= .agg (dj (fun x=> !f x)).toArray∧Wk w w'):=by
 refine enter Tryz.func135 rfl Tryz.ntmps135 rfl ?_
 refine U (fun _ q=>(e (jt rfl fun E w1 I i hB1=>e (al mX fun G M hb2 a hB2=>au ((q _ _ (U (fun _ s=> ?_))))))))
 refine p (iw my rfl rfl (by omega)) (p (ld m7 rfl ((a.md.B hB1).aE 0)) (p (p6 rfl) (p (iw my rfl rfl (by omega)) (p (ld m7 rfl ((a.md.B hB1).aE 1)) (p (p6 rfl) (p (iw my rfl rfl (by omega)) (p (ld m7 rfl ((a.md.B hB1).aE 2)) ?_)))))))
 refine p (p6 rfl) (p (iw my rfl rfl (by omega)) (p (ld m7 rfl ((a.md.B hB1).aE 3)) (p (p6 rfl) (p (wP (ps:= [(0,.int .u64 (dC (fun x=> !f x) 0:Nat)),(1,.int .u64 (dC (fun x=> !f x) 1:Nat)),(2,.int .u64 (dC (fun x=> !f x) 2:Nat)),(3,.int .u64 (dC (fun x=> !f x) 3:Nat))]) (L:= [.int .u64 (dC (fun x=> !f x) 0:Nat),.int .u64 (dC (fun x=> !f x) 1:Nat),.int .u64 (dC (fun x=> !f x) 2:Nat),.int .u64 (dC (fun x=> !f x) 3:Nat)]) wy rfl (rfl)) (e (bY k3 rfl (vs:=dj (fun x=> !f x)) rfl rfl rfl hB2 (by decide) fun w3 C A=>au ((s _ _ ?_))))))))
 exact rt (ow rfl (c9 rfl g6 rfl (fun j J=>by rw [Nat.zero_add]; exact A.aE j)) (⟨rfl,Md.trans' (Md.trans i.md a.md) C (fun k hk h=>by have :=i.md.size; omega)⟩))
theorem zH (f:UInt8→Bool) (c:UInt8) (ci:Int) (w:World) (a:(c.toNat:Int)=ci):aU Tryz.prog 153 (List.toArray [.agg (dj (f)).toArray,.int .u8 ci]) w (fun v w'=>v= .bool (f c)∧Wk w w'):=by
 subst a; exact HG f c w
theorem wY (f:UInt8→Bool) (w:World):
 aU Tryz.prog 152 (List.toArray [.agg (dj (f)).toArray]) w (fun v w'=>World.ownsRow w' w.heap.size 5 1 (v) ((bytesOf f)).length (U8 ((bytesOf f)))∧Wk w w'):=by
 refine enter Tryz.func152 rfl Tryz.ntmps152 rfl ?_
 refine U (fun _ V=>(e (jt rfl fun al w1 aC I hB1=>aj (((V _ _ (U (fun _ Y=> ?_))))))))
 refine aj (((Y _ _ (sq (fun _ Z=>U (fun _ aa=>(p mv (nl ?_))))))))
 refine tn (aa _ _ (aA (lp (fun M G wI=> ∃ (i:Nat) (a:Value),(i≤256)∧(World.ownsRow wI w1.heap.size 5 1 (a) ((iK f i)).length (U8 ((iK f i))))∧(Wk w1 wI)∧(G 1=aH al)∧(G 3=a)∧(G 5=ae i)∧(256 - i=M)) _ ⟨0,.slice none 0 0,(by omega),(World.ownsRow_nil _ _ _ _),(Md.refl _ _),rfl,rfl,rfl,rfl⟩ ?_)))
 rintro M G wI ⟨i,a,hi,E,s,aq,ar,av,rfl⟩
 refine fx 1 aq (fx 3 ar (fx 5 av ?_))
 have aB:Wk w wI:=Md.trans I.md s
 have hbl:=lT f i
 have hs1:=s.size
 refine U (fun _ ab=>(p (lt rfl rfl) (au ((ab _ _ (sq (fun _ ac=>cd rfl (fun hc6=> ?_) (fun hc6=> ?_))))))))
 refine az (tn (ac _ _ (sq (fun _ A=>aA (U (fun _ ah=>(ag (ae i) (p (bF (ae i) rfl) ?_))))))))
 refine au ((ah _ _ (U (fun _ ai=>(p (dB g6 rfl (rfl) (fun j aI=>by rw [Nat.zero_add]; exact (s.B hB1).aE j)) (ag (ae i) (p (ir u5 mi rfl (nW (by omega))) (e (cl xr (zH f (UInt8.ofNat i) _ _ (rI i (by omega))) rfl fun v11 w11 hR11=> ?_)))))))))
 obtain ⟨rfl,q⟩:=hR11
 refine au ((ai _ _ (cb rfl (fun J=> ?_) (fun J=> ?_))))
 refine rg rfl (ag (a) (ag (ae i) (p (ir u5 mi rfl (nW (by omega))) (e (ec eV rfl rfl fun ay w15 aD C am=>e (ap eV (aG (aG E q) C.md) rfl (by have :=q.size; have :=C.md.size; omega) rfl (aw.cU am) (rfl) (rfl) (by omega) (by omega) fun ax w16 O hM16 hz16 aF=> ?_))))))
 rw [← rI i (by omega)] at O
 have ho16x:=l9 O
 have an:Wk w1 w16:=Wk.own (Md.trans (Md.trans s q) C.md) (aG (aG E q) C.md) hM16 (Nat.le_refl _)
 refine p ak (nl (bn (tn (A _ _ (rg rfl (p (ad rfl rfl (bm (by omega))) (p mv (nl ?_))))))))
 exact tn (⟨_,by omega,i+1,ax,(by omega),((by rw [nd,if_pos J]; exact ho16x)),an,rfl,rfl,rfl,rfl⟩)
 refine az (bn (tn (A _ _ (rg rfl (p (ad rfl rfl (bm (by omega))) (p mv (nl (tn ?_))))))))
 exact ⟨_,by omega,i+1,a,(by omega),((by rw [nd,if_neg (by rw [J]; exact Bool.noConfusion),List.append_nil]; exact aG E q)),(Md.trans s q),rfl,rfl,rfl,rfl⟩
 refine ext (te _ (te _ (be (tn (Z _ _ (U (fun _ A=>(ag (a) ?_))))))))
 refine p (bF (a) rfl) (au ((A _ _ (rt (f1 rfl rfl ?_)))))
 have ao:i=256:=by omega
 subst ao
 exact ⟨gi E I.md.size,Md.trans I.md s⟩
theorem Ff (s:List UInt8) (w:World) (hs:s.length≤1048576):
 aU Tryz.prog 151 (List.toArray [str s]) w (fun v w'=>v= .agg (dj (fun x=>decide (x∈s))).toArray∧Wk w w'):=by
 refine enter Tryz.func151 rfl Tryz.ntmps151 rfl ?_
 refine U (fun _ Y=>(e (al mX fun C aF hb2 O hB2=>au ((Y _ _ (U (fun _ Z=>(e (al mX fun q w3 aC V ak=> ?_)))))))))
 have am:bG w3.heap q (dj (fun x=>decide (x∈s.take 0))):=by rw [show (fun x=>decide (x∈s.take 0))=(fun _:UInt8=>false) from funext fun x=>by simp,sP]; exact ak
 refine au ((Z _ _ (sq (fun _ aa=>U (fun _ ab=>(ag (str s) (p (bK u9 rfl rfl) (p mv ?_))))))))
 refine au ((ab _ _ (aA ?_)))
 have hb2l:=hB2.lt
 refine lp (fun E a wI=> ∃ (i:Nat),(i≤s.length)∧(bG wI.heap q (dj (fun x=>decide (x∈s.take i))))∧(bG wI.heap C [.int .u64 0,.int .u64 0,.int .u64 0,.int .u64 0])∧(Wk w wI)∧(a 0=str s)∧(a 2=aH C)∧(a 3=aH q)∧(a 6=ae (s.length))∧(a 7=ae i)∧(s.length - i=E)) _ ⟨0,(by omega),am,(V.md.B hB2),(Md.trans O.md V.md),rfl,rfl,rfl,rfl,rfl,rfl⟩ ?_
 rintro E a wI ⟨i,hi,G,I,J,ar,av,aw,ax,ay,rfl⟩
 refine fx 0 ar (fx 2 av (fx 3 aw (fx 6 ax (fx 7 ay (U (fun _ ac=>(p (lt rfl rfl) (au ((ac _ _ (sq (fun _ ah=>cd rfl (fun hc8=> ?_) (fun hc8=> ?_)))))))))))))
 refine az (tn (ah _ _ (sq (fun _ A=>aA (U (fun _ ai=>(ag (ae i) (p (bF (ae i) rfl) ?_))))))))
 refine au ((ai _ _ (rg rfl (ag (str s) (ag (ae i) (p (dA u9 rfl rfl (by omega)) (e (cl xn (AQ q (s.getD i 0) _ _ G) rfl fun aD w13 hR13=> ?_))))))))
 obtain ⟨rfl,aj,M⟩:=hR13
 have ao:Wk w w13:=Md.trans' J M (fun k hk h=>by have :=O.md.size; omega)
 refine nl (bn (tn (A _ _ (rg rfl (p (ad rfl rfl (bm (by omega))) (p mv (nl (tn ?_))))))))
 exact ⟨_,by omega,i+1,(by omega),((by rw [E9 (fun x=>(Ic (show i < s.length by omega) x).symm)]; exact aj)),(M.B I (fun h=>by omega)),ao,rfl,rfl,rfl,rfl,rfl,rfl⟩
 refine ext (te _ (te _ (be (tn (aa _ _ (U (fun _ A=>(p (dB g6 rfl (rfl) (fun j aq=>by rw [Nat.zero_add]; exact (G).aE j)) ?_))))))))
 refine e (bY k3 rfl (vs:=dj (fun x=>decide (x∈s.take i))) rfl rfl rfl I (by decide) fun w7 ap an=>au ((A _ _ (rt (ow rfl (c9 rfl g6 rfl (fun j aq=>by rw [Nat.zero_add]; exact an.aE j)) ?_)))))
 have aB:s.take i=s:=List.take_of_length_le (by omega)
 rw [aB]
 exact ⟨rfl,Md.trans' J ap (fun k hk h=>by omega)⟩
theorem If (s:List UInt8) (c:UInt8) (w:World):
 aU Tryz.prog 149 (List.toArray [str s,.int .u8 c.toNat]) w (fun v w'=>v= .int .i64 (dD c s)∧Wk w w'):=by
 refine enter Tryz.func149 rfl Tryz.ntmps149 rfl ?_
 refine U (fun _ a=>(aj (((a _ _ (U (fun _ i=>(ag (str s) ?_))))))))
 exact ag (.int .u8 c.toNat) (e (cl pP (zT s c _) rfl fun j w7 hR7=>aj (((i _ _ (rt (f1 rfl rfl (hR7))))))))
theorem FA (s pr:List UInt8) (w:World) (hs:s.length≤1099511627776) (E:pr.length≤1099511627776):
 aU Tryz.prog 174 (List.toArray [str s,str pr]) w (fun v w'=>v= .tuple #[str (eW s pr),.bool (decide (s.take pr.length=pr))]∧Wk w w'):=by
 refine enter Tryz.func174 rfl Tryz.ntmps174 rfl ?_
 refine U (fun _ q=>(p ak (aj (((q _ _ (sq (fun _ A=>sq (fun _ C=> ?_)))))))))
 refine rg rfl (ag (str s) (ag (str pr) (e (cl xl (zE s pr _ hs E) rfl fun G w8 hR8=> ?_))))
 obtain ⟨rfl,j⟩:=hR8
 refine p (no rfl) (au ((C _ _ (cb rfl (fun i=> ?_) (fun i=> ?_)))))
 have hpp:¬s.take pr.length=pr:=by simpa using i
 refine U (fun _ a=>(ag (str s) (p (bF (str s) rfl) (aj (((a _ _ (rt ?_))))))))
 exact tr (f2 rfl rfl rfl (⟨by unfold eW; rw [if_neg hpp,decide_eq_false hpp]; rfl,j⟩))
 have hpp:s.take pr.length=pr:=by simpa using i
 have hpl:=uL hpp
 refine az (tn (A _ _ (U (fun _ a=>(ag (str s) (ag (str pr) (p (bK u9 rfl rfl) (p (kJ u9 rfl rfl (by omega)) ?_))))))))
 exact p ak (aj (((a _ _ (rt (f2 rfl rfl rfl (⟨by unfold eW; rw [if_pos hpp,decide_eq_true hpp]; rfl,j⟩)))))))
theorem FB (s pr:List UInt8) (w:World) (hs:s.length≤1099511627776) (q:pr.length≤1099511627776):
 aU Tryz.prog 150 (List.toArray [str s,str pr]) w (fun v w'=>v= .tuple #[str (eW s pr),.bool (decide (s.take pr.length=pr))]∧Wk w w'):=by
 refine enter Tryz.func150 rfl Tryz.ntmps150 rfl ?_
 refine U (fun _ a=>(p ak (aj (((a _ _ (U (fun _ i=> ?_))))))))
 refine ag (str s) (ag (str pr) (e (cl DS (FA s pr _ hs q) rfl fun A w8 hR8=> ?_)))
 obtain ⟨rfl,j⟩:=hR8
 refine p (xt rfl rfl) (p (xt rfl rfl) (p ak (aj (((i _ _ (rt (f2 rfl rfl rfl ?_))))))))
 exact ⟨rfl,j⟩
theorem LO (s pr:List UInt8):(eW s pr).length≤s.length:=by unfold eW; split <;> simp
def fK (s:List UInt8) (k:Nat):List UInt8:=(s.drop k).take ((s.drop k).idxOf 93)
theorem CY (s:List UInt8) (k:Nat):(fK s k).length≤s.length:=by unfold fK; rw [List.length_take,List.length_drop]; omega
theorem CX (s:List UInt8) (k:Nat):(s.take (k+(s.drop k).idxOf 93)).drop k=fK s k:=by
 rw [List.drop_take,Nat.add_sub_cancel_left]; rfl
def lS (s:List UInt8) (k:Nat):UInt8→Bool:=fun x=>if (fK s k).take 1= [94] then !decide (x∈eW (fK s k) [94]) else decide (x∈eW (fK s k) [94])
theorem C1 {s:List UInt8} {k:Nat} (h:(fK s k).take [(94:UInt8)].length= [94]):lS s k=fun x=> !decide (x∈eW (fK s k) [94]):=by
 funext x; exact if_pos h
theorem C2 {s:List UInt8} {k:Nat} (h:¬(fK s k).take [(94:UInt8)].length= [94]):lS s k=fun x=>decide (x∈eW (fK s k) [94]):=by
 funext x; exact if_neg h
theorem CZ (s:List UInt8) (k:Nat) (w:World) (hs:s.length≤1048576) (hk:k≤s.length):
 aU Tryz.prog 134 (List.toArray [str s,ae k]) w (fun v w'=>(∃ f,v= .tuple #[.agg (dj f).toArray,.int .i64 (if dD 93 (s.drop k) < 0 then 0 else ((k+(s.drop k).idxOf 93 +1:Nat):Int)),.bool (!decide (dD 93 (s.drop k) < 0) && decide (eW (fK s k) [94]≠[]))]∧(¬dD 93 (s.drop k) < 0→f=lS s k))∧Wk w w'):=by
 refine enter Tryz.func134 rfl Tryz.ntmps134 rfl ?_
 refine U (fun _ ab=>(e (al mX fun O w4 aM A q=>p ak (aj (((ab _ _ (sq (fun _ ac=> ?_)))))))))
 refine rg rfl (ag (str s) (ag (ae k) (p (kJ u9 rfl rfl (by omega)) (e (cl DA (If (s.drop k) 93 _) rfl fun aN w14 aB=> ?_)))))
 obtain ⟨rfl,hE14⟩:=aB
 have hdl:(s.drop k).length=s.length - k:=List.length_drop
 refine aj (((ac _ _ (sq (fun _ ah=>U (fun _ ai=>(p mv (p (lt rfl rfl) ?_))))))))
 refine au ((ai _ _ (cd rfl (fun a=> ?_) (fun a=> ?_))))
 refine U (fun _ C=>(p (wP (ps:= []) (L:= [.int .u64 0,.int .u64 0,.int .u64 0,.int .u64 0]) wy rfl (rfl)) (e (bY k3 rfl (vs:=dj (fun _=>false)) (by rw [sP]; rfl) rfl rfl (hE14.B q) (by decide) fun w3 ay an=>p ak (aj (((C _ _ ?_))))))))
 refine rt (tr (yJ rfl (c9 rfl g6 rfl (fun j J=>by rw [Nat.zero_add]; exact an.aE j)) dF dF ?_))
 refine ⟨⟨fun _=>false,by rw [if_pos a,decide_eq_true a]; rfl,fun h=>absurd a h⟩,Md.trans' (Md.trans A.md hE14) ay (fun k hk h=>by omega)⟩
 have hix:=mK (c:=93) (l:=s.drop k) a
 have hbl:(fK s k).length≤s.length:=CY s k
 refine az (tn (ah _ _ (sq (fun _ C=> ?_))))
 have hbe:=CX s k
 refine rg rfl (ag (str s) (ag (ae k) (ag (ae k) (p mv (p (bc ((k+(s.drop k).idxOf 93:Nat):Int) rfl rfl (aR (by omega) (by omega))) (p (iS u9 rfl rfl rfl (by omega)) (e (cl DB (FB ((s.take (k+(s.drop k).idxOf 93)).drop k) [94] _ (by rw [hbe]; omega) (by decide)) rfl fun aO w25 aa=> ?_))))))))
 rw [hbe] at aa
 obtain ⟨rfl,hE25⟩:=aa
 have htl:=LO (fK s k) [94]
 refine p mv (p (xt rfl rfl) (p (xt rfl rfl) (p ak (aj (((C _ _ (sq (fun _ am=> ?_)))))))))
 refine rg rfl (p mv (e (cl DC (Ff (eW (fK s k) [94]) _ (by omega)) rfl fun aP w29 aC=> ?_)))
 obtain ⟨rfl,hE29⟩:=aC
 refine e (al mX fun M w10 hb10 Z hB10=> ?_)
 have av:Wk w w10:=Md.trans A.md (Md.trans hE14 (Md.trans hE25 (Md.trans hE29 Z.md)))
 have hB4x:=Z.md.B (hE29.B (hE25.B (hE14.B q)))
 have hb4l:=hB4x.lt
 refine e (bY k3 rfl (vs:=dj (fun x=>decide (x∈eW (fK s k) [94]))) rfl rfl rfl hB10 (by decide) fun w5 V G=> ?_)
 have hE5:Wk w w5:=Md.trans' av V (fun k hk h=>by have :=A.md.size; have :=hE14.size; have :=hE25.size; have :=hE29.size; omega)
 have hB4y:=V.B hB4x (fun h=>by have :=q.lt; have :=hE14.size; have :=hE25.size; have :=hE29.size; omega)
 refine au ((am _ _ ?_))
 refine c7 (fun i wC=>(bG wC.heap M (dj (lS s k)))∧(bG wC.heap O [.int .u64 0,.int .u64 0,.int .u64 0,.int .u64 0])∧(Wk w wC)∧(i 0=str s)∧(i 1=ae k)∧(i 4=aH O)∧(i 7= .int .i64 (dD 93 (s.drop k)))∧(i 8=str (eW (fK s k) [94]))∧(i 10=aH M)) ?_ ?_
 refine U (fun _ E=>(p mv (au ((E _ _ (cb rfl (fun I=> ?_) (fun I=> ?_)))))))
 refine rg rfl (p (dB g6 rfl (rfl) (fun j J=>by rw [Nat.zero_add]; exact (G).aE j)) (e (cl sh (uC (fun x=>decide (x∈eW (fK s k) [94])) _) rfl fun aQ aS aD=> ?_)))
 obtain ⟨rfl,hE32⟩:=aD
 refine e (bY k3 rfl (vs:=dj (fun x=> !decide (x∈eW (fK s k) [94]))) rfl rfl rfl (hE32.B G) (Nat.le_refl 4) fun w7 Y ao=> ?_)
 have hE7:Wk w w7:=Md.trans' (Md.trans hE5 hE32) Y (fun k hk h=>by have :=A.md.size; have :=hE14.size; have :=hE25.size; have :=hE29.size; omega)
 have hB4z:=Y.B (hE32.B hB4y) (fun h=>by have :=q.lt; have :=hE14.size; have :=hE25.size; have :=hE29.size; omega)
 exact au ((⟨((by rw [C1 (by simpa using I)]; exact ao)),hB4z,hE7,rfl,rfl,rfl,rfl,rfl,rfl⟩))
 exact az (tn (⟨((by rw [C2 (by simpa using I)]; exact G)),hB4y,hE5,rfl,rfl,rfl,rfl,rfl,rfl⟩))
 rintro i wC ⟨aq,ar,ax,aF,aG,aJ,aK,aL,aI⟩
 refine fx 0 aF (fx 1 aG (fx 4 aJ (fx 7 aK (fx 8 aL (fx 10 aI (U (fun _ E=>(p (dB g6 rfl (rfl) (fun j J=>by rw [Nat.zero_add]; exact (aq).aE j)) (ag (ae k) (ag (.int .i64 (dD 93 (s.drop k))) (p (bc ((k+(s.drop k).idxOf 93:Nat):Int) rfl rfl (aR (by omega) (by omega))) (p (bc ((k+(s.drop k).idxOf 93 +1:Nat):Int) rfl rfl (aR (by omega) (by omega))) ?_))))))))))))
 refine ag (str (eW (fK s k) [94])) (p (j8 rfl rfl) (e (bY k3 rfl (vs:=dj (lS s k)) rfl rfl rfl ar (by decide) fun w8 aA ap=> ?_)))
 have aw:Wk w w8:=Md.trans' ax aA (fun k hk h=>by omega)
 refine p ak (aj (((E _ _ (rt (yJ rfl (c9 rfl g6 rfl (fun j J=>by rw [Nat.zero_add]; exact ap.aE j)) dF dF ?_))))))
 refine ⟨⟨lS s k,by rw [if_neg a,decide_eq_false a]; rfl,fun _=>rfl⟩,aw⟩
theorem Ie (l:List UInt8) (a:Option Addr) (n c:Nat) (x:UInt8) (w:World) (hC:aw w.heap a (U8 l)) (hn:l.length=n) (ao:n≤1048576):
 aU Tryz.prog 154 (List.toArray [.slice a n c,.int .u8 x.toNat]) w (fun v w'=>v= .int .i64 (dD x l)∧Wk w w'):=by
 refine enter Tryz.func154 rfl Tryz.ntmps154 rfl ?_
 refine U (fun _ I=>(aj (((I _ _ (sq (fun _ J=>U (fun _ M=> ?_))))))))
 refine ag (.slice a n c) (p (ba jr rfl rfl) (p mv (au ((M _ _ (aA (lp (fun C q wI=> ∃ (i:Nat),(i≤n)∧(∀ j,j < i→l.getD j 0≠x)∧(wI=w)∧(q 0= .slice a n c)∧(q 1= .int .u8 x.toNat)∧(q 7=ae n)∧(q 8=ae i)∧(n - i=C)) _ ⟨0,(by omega),((fun j G=>by omega)),rfl,rfl,rfl,rfl,rfl,rfl⟩ ?_)))))))
 rintro C q wI ⟨i,hi,A,ab,ah,ai,al,am,rfl⟩
 refine fx 0 ah (fx 1 ai (fx 7 al (fx 8 am ?_)))
 subst ab
 refine U (fun _ O=>(p (lt rfl rfl) (au ((O _ _ (sq (fun _ V=>cd rfl (fun ac=> ?_) (fun ac=> ?_))))))))
 refine az (tn (V _ _ (sq (fun _ s=>aA (U (fun _ Y=>(ag (ae i) (p (bF (ae i) rfl) ?_))))))))
 refine au ((Y _ _ (U (fun _ Z=>(ag (.int .u8 x.toNat) (ag (.slice a n c) (ag (ae i) (p (aJ iO rfl rfl (by omega) (aw.ok (hC) (lB (by omega)))) ?_))))))))
 refine p (ld kV rfl (lA (i:=i) hC (by omega))) (p (bf rfl rfl) (au ((Z _ _ (cd rfl (fun E=> ?_) (fun E=> ?_))))))
 have an:l.getD i 0=x:=UInt8.toNat_inj.1 (by omega)
 refine U (fun _ aa=>(ag (ae i) (p (bF (ae i) rfl) (au ((aa _ _ (rt (br ?_))))))))
 exact tr (tr (br (tr (f1 rfl rfl (⟨by rw [zZ (show i < l.length by omega) A an]; rfl,Md.refl _ _⟩)))))
 refine az (bn (tn (s _ _ (rg rfl (p (ad rfl rfl (bm (by omega))) (p mv (nl (tn ?_))))))))
 exact ⟨_,by omega,i+1,(by omega),((fun j G=>by rcases Nat.lt_or_ge j i with h | h <;> first | exact A j h | (rw [show j=i by omega]; exact fun h2=>E (by rw [h2])))),rfl,rfl,rfl,rfl,rfl,rfl⟩
 refine ext (te _ (te _ (be (tn (J _ _ (U (fun _ s=>(p ak ?_))))))))
 exact au ((s _ _ (rt (f1 rfl rfl (⟨by rw [z0 (fun j G=>A j (by omega))]; rfl,Md.refl _ _⟩)))))
theorem FX (l:List UInt8) (i j:Nat) (B n cp gg:Nat) (w:World) (s:World.ownsRow w B 5 1 (.slice (some ⟨gg,0,none⟩) n cp) n (U8 l)) (ac:i < j∧j≤n) (ah:n≤1048576):
 aU Tryz.prog 155 (List.toArray [.slice (some ⟨gg,0,none⟩) n cp,ae i,ae j]) w (fun v w'=>v= .slice (some ⟨gg,0,none⟩) (i+(n - j)) cp∧World.ownsRow w' B 5 1 (.slice (some ⟨gg,0,none⟩) (i+(n - j)) cp) (i+(n - j)) (U8 (l.take i++l.drop j))∧Md (fun q=>q=gg) w w'):=by
 have hln:=vt s
 have hcp:=(aM s).1
 refine enter Tryz.func155 rfl Tryz.ntmps155 rfl ?_
 refine U (fun _ A=>(aj (((A _ _ (U (fun _ C=>(ag (.slice (some ⟨gg,0,none⟩) n cp) ?_))))))))
 refine ag (ae i) (ag (ae j) (ag (.slice (some ⟨gg,0,none⟩) n cp) (p (ba jr rfl rfl) (p (Lf iO rfl rfl rfl rfl (by omega)) (au ((C _ _ (sq (fun _ E=> ?_)))))))))
 refine U (fun _ G=>(ag (ae i) (ag (ae j) (p (bf rfl rfl) (au ((G _ _ (cd rfl (fun h=>absurd h (by omega)) (fun ab=> ?_)))))))))
 refine az (tn (E _ _ (U (fun _ I=>(ag (.slice (some ⟨gg,0,none⟩) n cp) (p (ba jr rfl rfl) (p ak (nl ?_))))))))
 refine tn (I _ _ (sq (fun _ J=> ?_)))
 have a:(fun w'=>Wk w w') w.drew:=(Md.refl _ _).drew
 refine dH (fun w'=>Wk w w') 6 rfl wide a (a4 0 rfl (.slice (some ⟨gg,0,none⟩) n cp) a (a4 1 rfl (ae i) a (a6 2 rfl (fun _=>oY iO rfl rfl (by omega)) (fun _=>a) (a4 3 rfl (.slice (some ⟨gg,0,none⟩) n cp) a (a4 4 rfl (ae j) a (a6 5 rfl (fun _=>oZ iO rfl rfl (by omega)) (fun _=>a) (cE 6 rfl (by kernel_rfl) (by kernel_rfl) (CT (B:=B) (xs:=U8 (l.take i)) (news:=U8 (l.drop j)) (n:=i) (m:=n - j) eV (uD (aG s a) (by omega) (by omega)) rfl rfl (show aw _ (ee (some ⟨gg,0,none⟩) cp j 1) (U8 (l.drop j)) from LY (aG s a)) (by unfold ee; split <;> simp) (by rw [pz,List.length_drop]; omega) (Cy _) (by omega) fun w26 V Z=> ?_))))))))
 refine a6 7 rfl (fun _=>ak) (fun h=>Bool.noConfusion ((show true =_ from by kernel_rfl).trans h)) (dG (by kernel_rfl) ?_)
 refine tn (J _ _ (U (fun _ M=>(ag (.slice (some ⟨gg,0,none⟩) (i+(n - j)) cp) (ag (.slice (some ⟨gg,0,none⟩) (i+(n - j)) cp) (p (ba jr rfl rfl) (p mv (p (Lg iO rfl rfl rfl (by omega)) ?_))))))))
 refine e (E1 jr MH rfl Z (by simp) rfl (by omega) fun w6 Y aa=>au ((M _ _ (U (fun _ O=>(ag (.slice (some ⟨gg,0,none⟩) (i+(n - j)) cp) (p (bF (.slice (some ⟨gg,0,none⟩) (i+(n - j)) cp) rfl) (nl ?_))))))))
 exact tn (O _ _ (rt (f1 rfl rfl (⟨rfl,by rw [pw]; exact aa,Md.trans (a.mono (fun _ _ h=>h.elim)) (Md.trans V (Y.mono (fun q _ h=>by simpa [Value.ownBlock] using h.symm)))⟩))))
end Go.Hb.kS
end
section
set_option maxRecDepth 20000
set_option maxHeartbeats 1000000
namespace Go.Hb.lH
open Go.Hb.di
open Go.Proofs
open Go.Hb.fS Go.Hb.kS
theorem wT {s:List UInt8} {k:Nat} (h:(s.drop k).idxOf 93 < (s.drop k).length):eW (fK s k) [94]≠[]↔(s.drop k).idxOf 93≠0∧¬((s.drop k).idxOf 93=1∧(s.drop k).getD 0 0=94):=by
 unfold fK eW
 generalize hl:s.drop k=l at*
 cases l with
 | nil=>simp at h
 | cons b r=>
   generalize hm:(b::r).idxOf 93=m at*
   cases m with
   | zero=>simp
   | succ m=>
     simp only [List.length_cons] at h
     simp only [List.take_succ_cons,List.length_singleton,List.take_zero,List.getD_cons_zero,List.drop_succ_cons,List.drop_zero]
     by_cases hb:b=94
     · subst hb
       rw [if_pos rfl]
       cases m with
       | zero=>simp
       | succ m=>
         cases r with
         | nil=>simp at h
         | cons x r=>simp
     · rw [if_neg (by simpa using hb)]
       simp [hb]
theorem C3 {s:List UInt8} {k:Nat} (h:(s.drop k).idxOf 93 < (s.drop k).length) (h0:(s.drop k).idxOf 93≠0):lS s k=bJ (91::(s.drop k).take ((s.drop k).idxOf 93 +1)):=by
 funext x
 unfold lS fK eW bJ
 generalize hl:s.drop k=l at*
 cases l with
 | nil=>simp at h
 | cons b r=>
   generalize hm:(b::r).idxOf 93=m at*
   cases m with
   | zero=>exact absurd rfl h0
   | succ m=>
     simp only [List.length_cons] at h
     have hln:(91::List.take (m+1 +1) (b::r)).length=m+3:=by simp only [List.length_cons,List.length_take]; omega
     rw [hln,if_neg (show ¬m+3=1 by omega)]
     have a:(91::List.take (m+1 +1) (b::r)).getD 1 0=b:=rfl
     have i:List.take (m+3 - 1) (91::List.take (m+1 +1) (b::r))=91::List.take (m+1) (b::r):=by
      show List.take (m+2) (91::List.take (m+2) (b::r))=_
      rw [List.take_succ_cons,List.take_take,Nat.min_eq_left (by omega)]
     rw [a,i]
     simp only [List.take_succ_cons,List.take_zero,List.drop_succ_cons,List.drop_zero,List.length_singleton]
     by_cases hb:b=94
     · subst hb; simp
     · simp [hb]
theorem Gb:(fun x:UInt8=> !(fun _:UInt8=>false) x)=bJ [46]:=by funext x; simp [bJ]
theorem JF {c:UInt8} (h:c≠46):(fun x:UInt8=>(fun _:UInt8=>false) x || decide (x=c))=bJ [c]:=by
 funext x
 simp only [bJ,List.length_singleton,if_true,Bool.false_or,List.getD_cons_zero]
 exact decide_eq_decide.2 ⟨fun h1=> .inr h1.symm,fun h1=>(h1.resolve_left h).symm⟩
theorem E7 {ps:List (List UInt8)} (h:0 < ps.length):jf ps≠[]:=y3 (f:=fun t=>dj (bJ t)) (m:=4) (fun _=>rfl) (by decide) h
theorem E6 {h:Array Obj} {a:Option Addr} {ps:List (List UInt8)} {i:Nat} (hc:aw h a (jf ps)) (hi:i < ps.length):∀ j,j < 4→Hb.aE h (bk a) (fo a+i*4 +j)=(dj (bJ (ps.getD i [])))[j]? :=by
 have :=eQ (f:=fun t=>dj (bJ t)) (m:=4) (fun _=>rfl) hc (List.getElem?_eq_getElem hi)
 rw [List.getD_eq_getElem?_getD,List.getElem?_eq_getElem hi]; exact this
theorem qL {b:UInt8} (h:(b.toNat:Int)=91):b=91:=UInt8.toNat_inj.1 (by have :(91:UInt8).toNat=91:=rfl; omega)
theorem oO {b:UInt8} (h:¬(b.toNat:Int)=91):b≠91:=by rintro rfl; exact h rfl
theorem tW {b:UInt8} (h:(b.toNat:Int)=46):b=46:=UInt8.toNat_inj.1 (by have :(46:UInt8).toNat=46:=rfl; omega)
theorem uu {b:UInt8} (h:¬(b.toNat:Int)=46):b≠46:=by rintro rfl; exact h rfl
theorem AF {w:World} {B:Nat} {v:Value} {l:List (List UInt8)} {x:List UInt8} (h:w.ownsRow B 227 4 v (l.length+1) (jf l++dj (bJ x))):w.ownsRow B 227 4 v (l++ [x]).length (jf (l++ [x])):=by
 rw [List.length_append,E5]; simpa [jf] using h
theorem FY (l:List UInt8) (i j:Nat) (a p:Int) (B n cp gg:Nat) (w:World) (s:World.ownsRow w B 5 1 (.slice (some ⟨gg,0,none⟩) n cp) n (U8 l)) (A:i < j∧j≤n) (E:n≤1048576) (hi:a=(i:Nat)) (C:p=(j:Nat)):
 aU Tryz.prog 155 (List.toArray [.slice (some ⟨gg,0,none⟩) n cp,.int .i64 a,.int .i64 p]) w (fun v w'=>v= .slice (some ⟨gg,0,none⟩) (i+(n - j)) cp∧World.ownsRow w' B 5 1 (.slice (some ⟨gg,0,none⟩) (i+(n - j)) cp) (i+(n - j)) (U8 (l.take i++l.drop j))∧Md (fun q=>q=gg) w w'):=by
 subst hi C; exact FX l i j B n cp gg w s A E
theorem KY (f:UInt8→Bool) (w:World):
 aU Tryz.prog 137 (List.toArray [.agg (dj (f)).toArray]) w (fun v w'=>v=str (eU f)∧Wk w w'):=by
 have hbl:(bytesOf f).length≤256:=lT f 256
 have bc:(bytesOf (fun x=> !f x)).length≤256:=lT _ 256
 refine enter Tryz.func137 rfl Tryz.ntmps137 rfl ?_
 refine U (fun _ ay=>(e (jt rfl fun aK w1 ab I hB1=>aj (((ay _ _ (U (fun _ aB=> ?_))))))))
 refine p (dB g6 rfl (rfl) (fun j ao=>by rw [Nat.zero_add]; exact (hB1).aE j)) (e (cl xq (wY f _) rfl fun v6 w6 hR6=> ?_))
 obtain ⟨O,aa⟩:=hR6
 obtain ⟨q,a,rfl⟩:=bW O
 have hC6:=(aM O).2
 have hE6x:Wk w w6:=Md.trans I.md aa
 have hB6:=aa.B hB1
 refine aj (((aB _ _ (sq (fun _ aD=>aA (U (fun _ aF=>(ag (.slice q (bytesOf f).length a) ?_))))))))
 refine p (ba jr rfl rfl) (p (bf rfl rfl) (aj (((aF _ _ (cd rfl (fun aY=> ?_) (fun aY=> ?_)))))))
 refine U (fun _ A=>(aj (((A _ _ (rt (br (tr ?_))))))))
 exact f1 rfl rfl (⟨by unfold eU; rw [if_pos (show (bytesOf f).length=256 by omega)]; rfl,hE6x⟩)
 refine c7 (fun Y av=> ∃ (Z:Bool),(Z=decide ((bytesOf f).length=1∧(bytesOf f).getD 0 0≠46∧(bytesOf f).getD 0 0≠91))∧(av=w6)∧(Y 1=aH aK)∧(Y 3= .slice q (bytesOf f).length a)∧(Y 11= .bool Z)) ?_ ?_
 refine rg rfl (ag (.slice q (bytesOf f).length a) (p (ba jr rfl rfl) (p (bf rfl rfl) (p mv (gs (t:=15) rfl (fun aZ=> ?_) (fun aZ=> ?_))))))
 refine pg rfl rfl rfl (aC (.slice q (bytesOf f).length a) rfl) (pg rfl rfl rfl (aJ iO rfl rfl (by omega) (aw.ok (hC6) (lB (by omega)))) (pg rfl rfl rfl (ld kV rfl (lA (i:=0) hC6 (by omega))) (pg rfl rfl rfl (bB rfl rfl) (p (bg rfl) (p mv (gs (t:=21) rfl (fun an=> ?_) (fun an=> ?_)))))))
 refine pg rfl rfl rfl (aC (.slice q (bytesOf f).length a) rfl) (pg rfl rfl rfl (aJ iO rfl rfl (by omega) (aw.ok (hC6) (lB (by omega)))) (pg rfl rfl rfl (ld kV rfl (lA (i:=0) hC6 (by omega))) (pg rfl rfl rfl (bB rfl rfl) (p (bg rfl) (p ak (nl (tn ?_)))))))
 exact ⟨_,((by first | exact decide_eq_decide.2 ⟨fun h=>⟨by omega,by first | exact uu (by omega) | exact fun h=>by omega,by first | exact oO (by omega) | exact fun h=>by omega⟩,fun h=>by have h1:=h.2.2; exact fun h2=>h1 (qL h2)⟩ | rfl)),rfl,rfl,rfl,rfl⟩
 refine sk rfl rfl rfl rfl (sk rfl rfl rfl rfl (sk rfl rfl rfl rfl (sk rfl rfl rfl rfl (p (a5 rfl) (p ak (nl (tn ?_)))))))
 exact ⟨false,((decide_eq_false (fun h=>h.2.1 (tW (Decidable.of_not_not an)))).symm),rfl,rfl,rfl,rfl⟩
 refine sk rfl rfl rfl rfl (sk rfl rfl rfl rfl (sk rfl rfl rfl rfl (sk rfl rfl rfl rfl (p (a5 rfl) (p mv (sk rfl rfl rfl rfl (sk rfl rfl rfl rfl ?_)))))))
 exact sk rfl rfl rfl rfl (sk rfl rfl rfl rfl (p (a5 rfl) (aj (((⟨false,((decide_eq_false (fun h=>by omega)).symm),rfl,rfl,rfl,rfl⟩))))))
 rintro Y av ⟨Z,ab,aP,a2,a4,a3⟩
 refine fx 1 a2 (fx 3 a4 (fx 11 a3 ?_))
 subst aP
 refine cb rfl (fun ac=> ?_) (fun ac=> ?_)
 have V:(bytesOf f).length=1∧(bytesOf f).getD 0 0≠46∧(bytesOf f).getD 0 0≠91:=of_decide_eq_true (ab ▸ ac)
 refine U (fun _ A=>(ag (.slice q (bytesOf f).length a) (p (jw ju rfl (hC6) (by simp)) (aj (((A _ _ (rt ?_))))))))
 exact br (tr (f1 rfl rfl (⟨by unfold eU; rw [if_neg (show ¬(bytesOf f).length=256 by omega),if_pos V]; rfl,hE6x⟩)))
 have V:¬((bytesOf f).length=1∧(bytesOf f).getD 0 0≠46∧(bytesOf f).getD 0 0≠91):=of_decide_eq_false (ab ▸ ac)
 refine U (fun _ A=>(p (dB g6 rfl (rfl) (fun j ao=>by rw [Nat.zero_add]; exact (hB6).aE j)) (e (cl xr (zH f 93 _ _ rfl) rfl fun bi w31 aR=> ?_))))
 obtain ⟨rfl,hE31⟩:=aR
 refine aj (((A _ _ (cb rfl (fun ae=> ?_) (fun ae=> ?_)))))
 refine U (fun _ C=>(p (dB g6 rfl (rfl) (fun j ao=>by rw [Nat.zero_add]; exact (hE31.B hB6).aE j)) (e (cl sh (uC f _) rfl fun bj w33 aS=> ?_))))
 obtain ⟨rfl,aN⟩:=aS
 refine e (cl xq (wY (fun x=> !f x) _) rfl fun bk bq aT=> ?_)
 obtain ⟨ar,hE34⟩:=aT
 obtain ⟨a7,a9,rfl⟩:=bW ar
 refine p (jw ju rfl ((aM ar).2) (rfl)) (p (cc rfl rfl (by simp only [List.length_cons,List.length_nil]; omega)) (p (cc rfl rfl (by simp only [List.length_cons,List.length_nil,List.length_append]; omega)) (aj (((C _ _ (rt (br ?_))))))))
 exact tr (f1 rfl rfl (⟨by unfold eU; rw [if_neg (show ¬(bytesOf f).length=256 by omega),if_neg V,if_pos ae]; rfl,Md.trans hE6x (Md.trans hE31 (Md.trans aN hE34))⟩))
 refine az (bn (tn (aD _ _ ?_)))
 refine c7 (fun ax wC=> ∃ (E:Option Addr) (s G:Nat),(((bytesOf f).filter (fun b=>decide (b≠94))++(if 94∈(bytesOf f) then [94] else [])).length=s)∧(World.ownsRow wC w1.heap.size 5 1 (.slice E s G) s (U8 ((bytesOf f).filter (fun b=>decide (b≠94))++(if 94∈(bytesOf f) then [94] else []))))∧(Wk w wC)∧(s≤300)∧(ax 3= .slice E s G)) ?_ ?_
 refine U (fun _ C=>(ag (.slice q (bytesOf f).length a) (e (cl DD (Ie (bytesOf f) q _ a 94 _ (hC6.wk hE31) rfl (by omega)) rfl fun bl w39 aV=> ?_))))
 obtain ⟨rfl,hE39⟩:=aV
 have am:Wk w w39:=Md.trans hE6x (Md.trans hE31 hE39)
 refine aj (((C _ _ (U (fun _ aI=>(p mv (p (ge rfl rfl) (nl ?_))))))))
 refine tn (aI _ _ (cd rfl (fun aX=> ?_) (fun aX=> ?_)))
 have hix:=mK (c:=94) (l:=bytesOf f) (by omega)
 have ho39:=aG (aG O hE31) hE39
 obtain ⟨gg,rfl⟩:=JP ho39 (by omega)
 refine rg rfl (ag (.slice (some ⟨gg,0,none⟩) (bytesOf f).length a) (p mv (p mv (p (ad rfl rfl (bm (by omega))) (e (cl DE (FY (bytesOf f) ((bytesOf f).idxOf 94) ((bytesOf f).idxOf 94 +1) _ _ w1.heap.size _ a gg _ ho39 (by omega) (by omega) (by omega) (by omega)) rfl fun bo w46 aW=> ?_))))))
 obtain ⟨rfl,ah,hM46⟩:=aW
 have hE46:Wk w w46:=Md.trans' am hM46 (fun k hk h=>by have :=cG ho39 (show (Value.slice (some ⟨gg,0,none⟩) _ a).ownBlock=some gg from rfl); have :=I.md.size; omega)
 have hlx:=vt ah
 refine e (ec eV rfl rfl fun a8 bs bb J aL=>e (ap eV (aG ah J.md) rfl (by have :=I.md.size; have :=aa.size; have :=hE31.size; have :=hE39.size; have :=hM46.size; have :=J.md.size; omega) rfl (aw.cU aL) (rfl) (rfl) (by omega) (by omega) fun bp w48 ai aQ bh bd=> ?_))
 have hE48:=Wk.own (Md.trans hE46 J.md) (aG ah J.md) aQ I.md.size
 rw [H9 (C8 f) hix.2] at hlx ai
 obtain ⟨al,c2,rfl⟩:=bW ai
 have au:World.ownsRow w48 w1.heap.size 5 1 (.slice al (((bytesOf f).idxOf 94 +((bytesOf f).length - ((bytesOf f).idxOf 94 +1)))+1) c2) (((bytesOf f).idxOf 94 +((bytesOf f).length - ((bytesOf f).idxOf 94 +1)))+1) (U8 ((bytesOf f).filter (fun b=>decide (b≠94))++ [94])):=by rw [pw]; exact ai
 exact aj (((⟨al,_,c2,((by have :=vt au; rw [if_pos (List.idxOf_lt_length_iff.1 hix.2)]; exact this)),((by rw [if_pos (List.idxOf_lt_length_iff.1 hix.2)]; exact au)),hE48,((by omega)),rfl⟩)))
 have M:¬(94:UInt8)∈bytesOf f:=fun h=>by have h1:dD 94 (bytesOf f)=(bytesOf f).idxOf 94:=if_pos (List.idxOf_lt_length_iff.2 h); omega
 exact az (tn (⟨q,(bytesOf f).length,a,((by rw [if_neg M,Aq M,List.append_nil])),((by rw [if_neg M,Aq M,List.append_nil]; exact aG (aG O hE31) hE39)),am,((by omega)),rfl⟩))
 rintro ax wC ⟨E,s,G,aq,a1,aO,a0,a6⟩
 refine fx 3 a6 ?_
 have hF3:((bytesOf f).filter (fun b=>decide (b≠94))++(if 94∈(bytesOf f) then [94] else [])).length≤300:=by rw [aq]; exact a0
 refine U (fun _ C=>(ag (.slice E s G) (p (jw ju rfl ((aM a1).2) (aq)) (p (cc rfl rfl (Nat.le_trans (Nat.add_le_add_left hF3 _) (by decide))) (p (cc rfl rfl (by rw [List.length_append]; exact Nat.le_trans (Nat.add_le_add_right (Nat.add_le_add_left hF3 _) _) (by decide))) (p ak (nl ?_)))))))
 exact tn (C _ _ (rt (f1 rfl rfl (⟨by unfold eU; rw [if_neg (show ¬(bytesOf f).length=256 by omega),if_neg V,if_neg (show ¬f 93=true from by rw [ae]; exact Bool.noConfusion)]; rfl,aO⟩))))
theorem Fq (s:List UInt8) (w:World) (hs:s.length≤1048576):
 aU Tryz.prog 120 (List.toArray [str s]) w (fun v w'=>(∃ a,v= .tuple #[.agg [a].toArray,ae ((cB s).2)]∧World.ownsRow w' w.heap.size 227 4 (a) ((cB s).1).length (jf ((cB s).1)))∧Wk w w'):=by
 refine enter Tryz.func120 rfl Tryz.ntmps120 rfl ?_
 refine U (fun _ a9=>(e (fT vG fun ao cq hb2 O hB2=>aj (((a9 _ _ (sq (fun _ bj=>sq (fun _ aZ=> ?_)))))))))
 refine rg rfl (ag (str s) (p (cI rfl rfl) (p mv (gs (t:=10) rfl (fun hg10=> ?_) (fun hg10=> ?_)))))
 refine sk rfl rfl rfl rfl (sk rfl rfl rfl rfl (sk rfl rfl rfl rfl (p (bg rfl) (au ((aZ _ _ (ct rfl (sq (fun _ Z=> ?_)))))))))
 refine rg rfl (p (bZ (ps:= []) (L:= [.slice none 0 0]) o4 rfl (rfl)) (e (gj mD rfl (vs:= [.slice none 0 0]) rfl rfl rfl hB2 (by decide) fun w9 hM9 q=> ?_)))
 have A:Wk w w9:=Md.trans' O.md hM9 (fun k hk h=>by omega)
 exact aj (((Z _ _ (rt (tr (dP rfl (c9 (cs:= [.slice none 0 0]) rfl lN rfl (fun j C=>(by cases j with | zero=>exact (aQ q).trans rfl | succ j=>omega))) dF (⟨⟨.slice none 0 0,by unfold cB; rw [if_pos (.inl hg10)]; rfl,by unfold cB; rw [if_pos (.inl hg10)]; exact World.ownsRow_nil _ _ _ _⟩,A⟩)))))))
 refine pg rfl rfl rfl (aC (str s) rfl) (pg rfl rfl rfl (bK u9 rfl rfl) (pg rfl rfl rfl (gt rfl rfl) (p (a5 rfl) (au ((aZ _ _ (cd rfl (fun bP=> ?_) (fun bP=> ?_))))))))
 refine U (fun _ Z=>(p (bZ (ps:= []) (L:= [.slice none 0 0]) o4 rfl (rfl)) (e (gj mD rfl (vs:= [.slice none 0 0]) rfl rfl rfl hB2 (by decide) fun w9 hM9 q=> ?_))))
 have A:Wk w w9:=Md.trans' O.md hM9 (fun k hk h=>by omega)
 exact aj (((Z _ _ (rt (tr (dP rfl (c9 (cs:= [.slice none 0 0]) rfl lN rfl (fun j C=>(by cases j with | zero=>exact (aQ q).trans rfl | succ j=>omega))) dF (⟨⟨.slice none 0 0,by unfold cB; rw [if_pos (.inr (by omega))]; rfl,by unfold cB; rw [if_pos (.inr (by omega))]; exact World.ownsRow_nil _ _ _ _⟩,A⟩)))))))
 refine az (tn (bj _ _ (sq (fun _ Z=>U (fun _ bk=>(ag (str s) (p (cI rfl rfl) (nl ?_))))))))
 refine tn (bk _ _ (cd rfl (fun V=> ?_) (fun V=> ?_)))
 refine U (fun _ aO=>(p (bZ (ps:= []) (L:= [.slice none 0 0]) o4 rfl (rfl)) (e (gj mD rfl (vs:= [.slice none 0 0]) rfl rfl rfl hB2 (by decide) fun w9 hM9 q=> ?_))))
 have A:Wk w w9:=Md.trans' O.md hM9 (fun k hk h=>by omega)
 refine aj (((aO _ _ (rt (tr (dP rfl (c9 (cs:= [.slice none 0 0]) rfl lN rfl (fun j C=>(by cases j with | zero=>exact (aQ q).trans rfl | succ j=>omega))) dF ?_))))))
 have a6:¬(s= []∨512 < s.length):=fun h=>h.elim hg10 (fun h=>by omega)
 exact ⟨⟨.slice none 0 0,by unfold cB; rw [if_neg a6,if_pos V]; rfl,by unfold cB; rw [if_neg a6,if_pos V]; exact World.ownsRow_nil _ _ _ _⟩,A⟩
 refine az (tn (Z _ _ (U (fun _ aO=>(e (fT vG fun aa w4 cc a4 bw=> ?_))))))
 have hE4:Wk w w4:=Md.trans O.md a4.md
 have hb2l:=(Array.getElem?_eq_some_iff.1 hB2).1
 have hB2x:=a4.md.aA hB2
 have hs:=hs
 refine au ((aO _ _ (sq (fun _ bl=>U (fun _ bm=>(aj (((bm _ _ ?_)))))))))
 refine aA (lp (fun a0 an wI=> ∃ (i:Nat) (dn:List (List UInt8)) (am:Value),(i≤s.length∧dn.length≤i)∧(gD s i dn)∧(wI.heap[aa]? =some (.cells [am].toArray 213 (0,0)))∧(wI.heap[ao]? =some (.cells [.slice none 0 0].toArray 213 (0,0)))∧(World.ownsRow wI w.heap.size 227 4 (am) (dn).length (jf (dn)))∧(Wk w wI)∧(an 0=str s)∧(an 2=aH ao)∧(an 4=aH aa)∧(an 5=ae i)∧(s.length - i=a0)) _ ⟨0,[],.slice none 0 0,((by simp)),(gD.start s),bw,hB2x,(World.ownsRow_nil _ _ _ _),hE4,rfl,rfl,rfl,(by first | rfl | exact iv (if_neg ai)),rfl⟩ ?_)
 rintro a0 an wI ⟨i,dn,am,hi,aJ,ar,ac,I,J,bV,bX,b0,b1,rfl⟩
 refine fx 0 bV (fx 2 bX (fx 4 b0 (fx 5 b1 (sq (fun _ bo=>U (fun _ bb=>(ag (ae i) (ag (str s) (p (bK u9 rfl rfl) (p (lt rfl rfl) ?_))))))))))
 refine au ((bb _ _ (cd rfl (fun bQ=> ?_) (fun bQ=> ?_))))
 refine az (tn (bo _ _ (aA (U (fun _ aK=>(e (al mX fun ab w6 hb6 aF hB6=> ?_)))))))
 have aq:bG w6.heap ab (dj (fun _=>false)):=by rw [sP]; exact hB6
 have aT:Wk w w6:=Md.trans J aF.md
 have hBp6:=aF.md.aA ar
 have hBz6:=aF.md.aA ac
 have hol6:=aG I aF.md
 have hb6:ab=wI.heap.size:=hb6
 have hI4:=(Array.getElem?_eq_some_iff.1 ar).1
 have hI2:=(Array.getElem?_eq_some_iff.1 ac).1
 have hdi:=drop_cons (l:=s) (i:=i) 0 (by omega)
 refine au ((aK _ _ (U (fun _ aL=>(aj (((aL _ _ ?_))))))))
 refine c7 (fun Y wC=>(s.getD i 0≠91)∧(bG wC.heap ab (dj (bJ [s.getD i 0])))∧(wC.heap[aa]? =some (.cells [am].toArray 213 (0,0)))∧(wC.heap[ao]? =some (.cells [.slice none 0 0].toArray 213 (0,0)))∧(World.ownsRow wC w.heap.size 227 4 (am) (dn).length (jf (dn)))∧(Wk w wC)∧(Y 0=str s)∧(Y 2=aH ao)∧(Y 4=aH aa)∧(Y 5=ae i)∧(Y 6=aH ab)) ?_ ?_
 refine U (fun _ E=>(ag (str s) (ag (ae i) (p (dA u9 rfl rfl (by omega)) (au ((E _ _ (aA ?_))))))))
 refine U (fun _ bd=>(p (bf rfl rfl) (aj (((bd _ _ (cd rfl (fun aI=> ?_) (fun aI=> ?_))))))))
 refine sq (fun _ aM=>U (fun _ bh=>(ag (str s) (ag (ae i) (p (bc ((i+1:Nat):Int) rfl rfl (aR (by omega) (by omega))) (e (cl Dw (CZ s (i+1) _ hs (by omega)) rfl fun co w36 bN=> ?_)))))))
 obtain ⟨⟨bs,rfl,bT⟩,hE36⟩:=bN
 have bI:Wk w w36:=Md.trans aT hE36
 have hb91:=qL aI
 refine p mv (p (xt rfl rfl) (p (xt rfl rfl) (p (xt rfl rfl) (e (bY k3 rfl (vs:=dj bs) rfl rfl rfl (hE36.B aq) (by decide) fun w13 av a1=> ?_)))))
 have a3:Wk w w13:=Md.trans' bI av (fun k hk h=>by have :=J.size; omega)
 have hs36:=hE36.size
 have hBp13:=av.aA (hE36.aA hBp6) (fun h=>by omega)
 have hBz13:=av.aA (hE36.aA hBz6) (fun h=>by omega)
 have hol13:=bS (aG hol6 hE36) av (fun k hk h=>by have :=cG I hk; omega)
 have hdl:(s.drop (i+1)).length=s.length - (i+1):=List.length_drop
 refine p ak (aj (((bh _ _ (U (fun _ bi=>(p mv (p (no rfl) ?_))))))))
 refine au ((bi _ _ (cb rfl (fun G=> ?_) (fun G=> ?_))))
 have ah:e4 (s.drop i)=none:=by
  rw [hdi,hb91]
  refine pY rfl (fun h=> ?_)
  have b7:¬dD 93 (s.drop (i+1)) < 0:=by rw [show dD 93 (s.drop (i+1))=(s.drop (i+1)).idxOf 93 from if_pos h.1]; omega
  have hy:=(wT (s:=s) (k:=i+1) h.1).2 h.2
  rw [decide_eq_false b7,decide_eq_true hy] at G; cases G
 have hcr:=aJ.bad (by omega) ah
 refine U (fun _ aN=>(p (bZ (ps:= []) (L:= [.slice none 0 0]) o4 rfl (rfl)) (e (gj mD rfl (vs:= [.slice none 0 0]) rfl rfl rfl hBz13 (by decide) fun w9 hM9 q=> ?_))))
 have A:Wk w w9:=Md.trans' a3 hM9 (fun k hk h=>by omega)
 refine aj (((aN _ _ (rt (tr (br (tr (br ?_))))))))
 refine tr (br (tr (dP rfl (c9 (cs:= [.slice none 0 0]) rfl lN rfl (fun j C=>(by cases j with | zero=>exact (aQ q).trans rfl | succ j=>omega))) dF ?_)))
 have hz:cB s=([],41):=by unfold cB; rw [if_neg (fun h=>h.elim hg10 (fun h=>by omega)),if_neg V,hcr]
 exact ⟨⟨.slice none 0 0,by rw [hz]; rfl,by rw [hz]; exact World.ownsRow_nil _ _ _ _⟩,A⟩
 have ai:¬dD 93 (s.drop (i+1)) < 0:=fun h=>by rw [decide_eq_true h] at G; cases G
 have b8:eW (fK s (i+1)) [94]≠[]:=fun h=>by rw [h] at G; simp at G
 have hix:=mK ai
 have hyk:=(wT (s:=s) (k:=i+1) hix.2).1 b8
 obtain rfl :=bT ai
 rw [C3 hix.2 hyk.1] at a1
 have ah:e4 (s.drop i)=some (91::(s.drop (i+1)).take ((s.drop (i+1)).idxOf 93 +1),(s.drop (i+1)).drop ((s.drop (i+1)).idxOf 93 +1)):=by rw [hdi,hb91]; exact sJ rfl hix.2 hyk.1 hyk.2
 have hgo2:=aJ.step (j:=i+1 +(s.drop (i+1)).idxOf 93 +1) ah (by rw [List.drop_drop]; rfl)
 have ci:(s.drop (i+1)).idxOf 93 < s.length - (i+1):=by have :=hix.2; omega
 refine az (tn (aM _ _ (U (fun _ aN=>(p (fa mH rfl) (p (ld n7 rfl ((aQ hBp13).trans rfl)) (p (dB g6 rfl (rfl) (fun j C=>by rw [Nat.zero_add]; exact (a1).aE j)) (e (im rj rfl rfl rfl fun bp w46 ce aB bx=> ?_)))))))))
 have bz:bG w46.heap bp (dj (bJ (91::(s.drop (i+1)).take ((s.drop (i+1)).idxOf 93 +1)))):=bx
 have hE46:Wk w w46:=Md.trans a3 aB.md
 have hol46:=aG hol13 aB.md
 have hBp46:=aB.md.aA hBp13
 have hBz46:=aB.md.aA hBz13
 refine e (ap rj (hol46) rfl (by have :=hE46.size; omega) rfl (aw.cU bz) (rfl) (xU _) (by omega) (by omega) fun b9 cr a7 aW ck cg=> ?_)
 have ho47x:=AF a7
 have hBp47:=aW.aA hBp46 (fun h=>cw hol46 hBp46 (by decide) h)
 have hBz47:=aW.aA hBz46 (fun h=>cw hol46 hBz46 (by decide) h)
 have hE47:=Wk.own hE46 hol46 aW (Nat.le_refl _)
 refine p (fa mH rfl) (e (cj x7 rfl rfl (dU a7) hBp47 (by simp) fun w16 hM16 bt=> ?_))
 have bE:Wk w w16:=Md.trans' hE47 hM16 (fun k hk h=>by have :=O.md.size; omega)
 exact au ((aN _ _ (ext (ks (by decide) (te _ (be (tn (⟨_,by omega,i+1 +(s.drop (i+1)).idxOf 93 +1,dn++ [91::(s.drop (i+1)).take ((s.drop (i+1)).idxOf 93 +1)],b9,((by rw [List.length_append,List.length_singleton]; omega)),hgo2,bt,(hM16.aA hBz47 (fun h=>by omega)),(bS ho47x hM16 (fun k hk h=>cw ho47x hBp47 (by decide) (h ▸ hk))),bE,rfl,rfl,rfl,(by first | rfl | exact iv (if_neg ai)),rfl⟩))))))))
 refine U (fun _ aM=>(p (bf rfl rfl) (aj (((aM _ _ (cd rfl (fun aY=> ?_) (fun aY=> ?_))))))))
 refine rg rfl (p (dB g6 rfl (rfl) (fun j C=>by rw [Nat.zero_add]; exact (aq).aE j)) (e (cl sh (uC (fun _=>false) _) rfl fun cp w52 bO=> ?_)))
 obtain ⟨rfl,M⟩:=bO
 refine e (bY k3 rfl (vs:=dj (fun x=> !(fun _:UInt8=>false) x)) rfl rfl rfl (M.B aq) (by decide) fun w18 ax hB18=> ?_)
 have hs52:=M.size
 have bF:Wk w w18:=Md.trans' (Md.trans aT M) ax (fun k hk h=>by have :=J.size; omega)
 have hBp18:=ax.aA (M.aA hBp6) (fun h=>by omega)
 have hBz18:=ax.aA (M.aA hBz6) (fun h=>by omega)
 have hol18:=bS (aG hol6 M) ax (fun k hk h=>by have :=cG I hk; omega)
 exact nl (bn (tn (⟨(oO aI),((by rw [tW aY,← Gb]; exact hB18)),hBp18,hBz18,hol18,bF,rfl,rfl,rfl,rfl,rfl⟩)))
 refine rg rfl (ag (str s) (ag (ae i) (p (dA u9 rfl rfl (by omega)) (e (cl xn (AQ ab (s.getD i 0) _ _ aq) rfl fun cn w29 bM=> ?_)))))
 obtain ⟨rfl,bv,ay⟩:=bM
 have hE29:Wk w w29:=Md.trans' aT ay (fun k hk h=>by have :=J.size; omega)
 have hBp29:=ay.aA hBp6 (fun h=>by omega)
 have hBz29:=ay.aA hBz6 (fun h=>by omega)
 have hol29:=bS hol6 ay (fun k hk h=>by have :=cG I hk; omega)
 exact nl (bn (tn (⟨(oO aI),((by rw [← JF (uu aY)]; exact bv)),hBp29,hBz29,hol29,hE29,rfl,rfl,rfl,rfl,rfl⟩)))
 rintro Y wC ⟨hn91,bC,a2,bD,bU,bL,b2,b3,b4,b5,b6⟩
 refine fx 0 b2 (fx 2 b3 (fx 4 b4 (fx 5 b5 (fx 6 b6 (U (fun _ E=>(p (fa mH rfl) (p (ld n7 rfl ((aQ a2).trans rfl)) (p (dB g6 rfl (rfl) (fun j C=>by rw [Nat.zero_add]; exact (bC).aE j)) (e (im rj rfl rfl rfl fun bq w56 cf aD bA=> ?_)))))))))))
 have bB:bG w56.heap bq (dj (bJ [s.getD i 0])):=bA
 have hE56:Wk w w56:=Md.trans bL aD.md
 have hol56:=aG bU aD.md
 have hBp56:=aD.md.aA a2
 have hBz56:=aD.md.aA bD
 refine e (ap rj (hol56) rfl (by have :=hE56.size; omega) rfl (aw.cU bB) (rfl) (xU _) (by omega) (by omega) fun ca w57 a8 aX cm ch=> ?_)
 have ho57x:=AF a8
 have hBp57:=aX.aA hBp56 (fun h=>cw hol56 hBp56 (by decide) h)
 have hBz57:=aX.aA hBz56 (fun h=>cw hol56 hBz56 (by decide) h)
 have hE57:=Wk.own hE56 hol56 aX (Nat.le_refl _)
 have ah:e4 (s.drop i)=some ([s.getD i 0],s.drop (i+1)):=by rw [hdi]; exact xQ hn91
 have hgo2:=aJ.step (j:=i+1) ah rfl
 refine p (fa mH rfl) (e (cj x7 rfl rfl (dU a8) hBp57 (by simp) fun w19 aV bu=> ?_))
 have bH:Wk w w19:=Md.trans' hE57 aV (fun k hk h=>by have :=O.md.size; omega)
 refine au ((E _ _ (rg rfl (ag (ae i) (p (bc ((i+1:Nat):Int) rfl rfl (aR (by omega) (by omega))) (p ak (nl (bn ?_))))))))
 exact tn (⟨_,by omega,i+1,dn++ [[s.getD i 0]],ca,((by rw [List.length_append,List.length_singleton]; omega)),hgo2,bu,(aV.aA hBz57 (fun h=>by omega)),(bS ho57x aV (fun k hk h=>cw ho57x hBp57 (by decide) (h ▸ hk))),bH,rfl,rfl,rfl,(by first | rfl | exact iv (if_neg ai)),rfl⟩)
 refine ext (te _ (te _ (be (tn (bl _ _ (sq (fun _ aK=>sq (fun _ aL=> ?_))))))))
 obtain ⟨aP,aS,rfl⟩:=bW I
 have hcr:=aJ.done (by omega)
 refine rg rfl (p (fa mH rfl) (p (ld n7 rfl ((aQ ar).trans rfl)) (p (ba vp rfl rfl) (p (gt rfl rfl) (au ((aL _ _ (cd rfl (fun bR=> ?_) (fun bR=> ?_)))))))))
 refine U (fun _ E=>(p (bZ (ps:= []) (L:= [.slice none 0 0]) o4 rfl (rfl)) (e (gj mD rfl (vs:= [.slice none 0 0]) rfl rfl rfl ac (by decide) fun w9 hM9 q=> ?_))))
 have A:Wk w w9:=Md.trans' J hM9 (fun k hk h=>by omega)
 refine aj (((E _ _ (rt (tr (dP rfl (c9 (cs:= [.slice none 0 0]) rfl lN rfl (fun j C=>(by cases j with | zero=>exact (aQ q).trans rfl | succ j=>omega))) dF ?_))))))
 have hz:cB s=([],42):=by unfold cB; rw [if_neg (fun h=>h.elim hg10 (fun h=>by omega)),if_neg V,hcr]; exact if_pos (by omega)
 exact ⟨⟨.slice none 0 0,by rw [hz]; rfl,by rw [hz]; exact World.ownsRow_nil _ _ _ _⟩,A⟩
 refine az (tn (aK _ _ (U (fun _ E=>(p (dB lN rfl (rfl) (show ∀ j,j < 1→Hb.aE wI.heap aa (0 +j)= [Value.slice aP dn.length aS][j]? from fun j C=>(by cases j with | zero=>exact (aQ ar).trans rfl | succ j=>omega))) (e (gj mD rfl (vs:= [.slice aP dn.length aS]) rfl rfl rfl ac (by decide) fun w9 hM9 q=> ?_)))))))
 have A:Wk w w9:=Md.trans' J hM9 (fun k hk h=>by omega)
 have hol9:=bS I hM9 (fun k hk h=>cw I ac (by decide) (h ▸ hk))
 refine aj (((E _ _ (rt (dP rfl (c9 (cs:= [.slice aP dn.length aS]) rfl lN rfl (fun j C=>(by cases j with | zero=>exact (aQ q).trans rfl | succ j=>omega))) dF ?_)))))
 have hz:cB s=(dn,0):=by unfold cB; rw [if_neg (fun h=>h.elim hg10 (fun h=>by omega)),if_neg V,hcr]; exact if_neg (by omega)
 exact ⟨⟨_,by rw [hz]; rfl,by rw [hz]; exact hol9⟩,A⟩
theorem Kf (ps:List (List UInt8)) (a:Option Addr) (c:Nat) (w:World) (hC:aw w.heap a (jf ps)) (hn:ps.length≤4096):
 aU Tryz.prog 121 (List.toArray [.agg [.slice a ps.length c].toArray]) w (fun v w'=>v=str (jL ps)∧Wk w w'):=by
 refine enter Tryz.func121 rfl Tryz.ntmps121 rfl ?_
 refine U (fun _ J=>(e (jt rfl fun ay w1 aC A hB1=>aj (((J _ _ (sq (fun _ O=>sq (fun _ V=> ?_)))))))))
 refine rg rfl (p (fa mH rfl) (p (ld n7 rfl (hB1.aE 0)) (p (ba vp rfl rfl) (p (bf rfl rfl) (au ((V _ _ (cd rfl (fun G=> ?_) (fun G=> ?_)))))))))
 refine U (fun _ C=>(aj (((C _ _ (rt (tr (f1 rfl rfl ?_))))))))
 exact ⟨by unfold jL; rw [if_pos (List.eq_nil_of_length_eq_zero (by omega))]; rfl,A.md⟩
 refine az (tn (O _ _ (U (fun _ C=>(aj (((C _ _ (sq (fun _ Y=> ?_))))))))))
 refine U (fun _ Z=>(p (fa mH rfl) (p (ld n7 rfl (hB1.aE 0)) (p (ba vp rfl rfl) (p mv (au ((Z _ _ ?_))))))))
 refine aA (lp (fun I s wI=> ∃ (i:Nat),(i≤ps.length)∧(Wk w1 wI)∧(((ps.take i).flatMap fun t=>eU (bJ t)).length≤i*300)∧(s 3=str ((ps.take i).flatMap fun t=>eU (bJ t)))∧(s 11= .slice a ps.length c)∧(s 12=ae (ps.length))∧(s 13=ae i)∧(ps.length - i=I)) _ ⟨0,(by omega),(Md.refl _ _),((by simp)),(by first | rfl | (rw [eh ps i [] (by omega),List.flatMap_append,List.flatMap_singleton]; rfl)),rfl,rfl,rfl,rfl⟩ ?_)
 rintro I s wI ⟨i,hi,q,hlen,ax,aq,ar,av,rfl⟩
 refine fx 3 ax (fx 11 aq (fx 12 ar (fx 13 av (U (fun _ aa=>(p (lt rfl rfl) (au ((aa _ _ (sq (fun _ ab=>cd rfl (fun ap=> ?_) (fun ap=> ?_))))))))))))
 refine az (tn (ab _ _ (sq (fun _ E=>aA (U (fun _ M=>(p (aJ GA rfl rfl (by omega) (aw.ok (hC.wk (Md.trans A.md q)) (E7 (by omega)))) (p (dB g6 rfl (rfl) (show ∀ j,j < 4→Hb.aE wI.heap (bk a) (fo a+i*4 +j)=(dj (bJ (ps.getD i [])))[j]? from E6 (hC.wk (Md.trans A.md q)) (by omega))) ?_))))))))
 refine e (al mX fun aB w5 hb5 an ac=>e (bY k3 rfl (vs:=dj (bJ (ps.getD i []))) rfl rfl rfl ac (by decide) fun w6 am hB6=> ?_))
 have ai:Wk w1 w6:=Md.trans' (Md.trans q an.md) am (fun k hk h=>by have :=q.size; omega)
 refine au ((M _ _ (rg rfl (ag (str ((ps.take i).flatMap fun t=>eU (bJ t))) (p (dB g6 rfl (rfl) (fun j aD=>by rw [Nat.zero_add]; exact (hB6).aE j)) (e (cl si (KY (bJ (ps.getD i [])) _) rfl fun aF w19 ao=> ?_)))))))
 obtain ⟨rfl,ah⟩:=ao
 have hsl:=Bk (bJ (ps.getD i []))
 refine p (cc rfl rfl (by omega)) (p ak (nl (bn (tn (E _ _ (rg rfl (p (ad rfl rfl (bm (by omega))) (p mv ?_))))))))
 exact au ((⟨_,by omega,i+1,(by omega),(Md.trans ai ah),((by rw [eh ps i [] (by omega),List.flatMap_append,List.flatMap_singleton,List.length_append]; omega)),(by first | rfl | (rw [eh ps i [] (by omega),List.flatMap_append,List.flatMap_singleton]; rfl)),rfl,rfl,rfl,rfl⟩))
 refine ext (te _ (te _ (be (tn (Y _ _ (U (fun _ E=>(ag (str ((ps.take i).flatMap fun t=>eU (bJ t))) ?_))))))))
 exact p (bF (str ((ps.take i).flatMap fun t=>eU (bJ t))) rfl) (au ((E _ _ (rt (f1 rfl rfl (⟨by unfold jL; rw [if_neg (fun h=>by rw [h] at G; exact G rfl),show ps.take i=ps from List.take_of_length_le (by omega)]; rfl,Md.trans A.md q⟩))))))
end Go.Hb.lH
end
section
set_option maxRecDepth 20000
set_option maxHeartbeats 1000000
namespace Go.Hb.fP
open Go.Hb.di
open Go.Proofs
open Go.Hb.eX Go.Hb.fH Go.Hb.iV Go.Hb.ko Go.Hb.gF Go.Hb.lJ Go.Hb.g4 Go.Hb.kS Go.Hb.lH Go.Hb.gr Go.Hb.fS
theorem qp {kind:Nat} {al:List (List Nat)} {s:Tx} (h:al= []):ed kind al s=iP kind s:=if_pos h
theorem yZ {kind:Nat} {al:List (List Nat)} {s:Tx} {e:Nat} (h:al≠[]) (h1:dy s al.length= .error e):ed kind al s= .error 13:=by unfold ed; rw [if_neg h,h1]
theorem y2 {kind:Nat} {al:List (List Nat)} {s:Tx} (h:al≠[]) (h1:dy s al.length= .ok 0):ed kind al s= .error 13:=by unfold ed; rw [if_neg h,h1]; rfl
theorem y1 {kind n:Nat} {al:List (List Nat)} {s:Tx} (h:al≠[]) (h1:dy s al.length= .ok n) (hz:n≠0):ed kind al s= .ok (al.getD (n - 1) []):=by unfold ed; rw [if_neg h,h1]; exact if_neg hz
theorem qC {kind:Nat} {s:Tx} (h:(cX kind s).2=0):iP kind s= .ok (cX kind s).1:=if_neg fun h2=>h2 h
theorem qB {kind:Nat} {s:Tx} (h:(cX kind s).2≠0):iP kind s= .error (cX kind s).2:=if_pos h
theorem uW {kind ln:Nat} {al:List (List Nat)} {c:bX} {r:List Tx} (h:r.length≠4) (h1:r.length≠5):eC kind al c ln r= .error 111:=by unfold eC; rw [if_pos ⟨h,h1⟩]
theorem jn {kind ln:Nat} {al:List (List Nat)} {c:bX} {r:List Tx} (h:r.length=4∨r.length=5):eC kind al c ln r=(match dq true (r.getD 2 []) with
 | .error e=> .error e
 | .ok st=>match gQ (aW (r.getD 3 [])) with
   | .error e=> .error e
   | .ok ad=>match ic kind al c.kind (aW (r.getD 3 [])) with
     | .error e=> .error e
     | .ok nx=>match iq r with
       | .error e=> .error e
       | .ok cd=> .ok ⟨c.kind,c.flag,c.dX,st,ad,cd,nx,ln⟩):=by unfold eC; rw [if_neg (by omega)]; rfl
theorem vQ {r:iJ} (h:r.2.2.2≠0):gQ r= .error r.2.2.2:=if_pos h
theorem vT {r:iJ} (h:r.2.2.2=0) (h1:r.1= [48]):gQ r= .ok []:=by unfold gQ; rw [if_neg (fun h2=>h2 h),if_pos h1]
theorem vR {r:iJ} (h:r.2.2.2=0) (h1:r.1≠[48]) (h2:e6 r.1≠0):gQ r= .error (e6 r.1):=by unfold gQ; rw [if_neg (fun h2=>h2 h),if_neg h1,if_pos h2]
theorem vS {r:iJ} (h:r.2.2.2=0) (h1:r.1≠[48]) (h2:e6 r.1=0):gQ r= .ok r.1:=by unfold gQ; rw [if_neg (fun h2=>h2 h),if_neg h1,if_neg (fun h3=>h3 h2)]
theorem Ao {kind a:Nat} {al:List (List Nat)} {r:iJ} (h:r.2.2.1=false):ic kind al a r= .ok []:=by unfold ic; rw [if_neg (by rw [h]; exact Bool.noConfusion)]
theorem An {kind a:Nat} {al:List (List Nat)} {r:iJ} (h:r.2.2.1=true) (h1:a=1):ic kind al a r= .error 118:=by unfold ic; rw [if_pos h,if_pos h1]
theorem qR {kind a:Nat} {al:List (List Nat)} {r:iJ} (h:r.2.2.1=true) (h1:a≠1):ic kind al a r=ed kind al r.2.1:=by unfold ic; rw [if_pos h,if_neg h1]
theorem x2 {r:List Tx} (h:r.length≠5):iq r= .ok [46]:=if_neg h
theorem xX {r:List Tx} (h:r.length=5) (h1:ei (r.getD 4 [])=false):iq r= .error 21:=by unfold iq; rw [if_pos h,if_pos h1]
theorem xY {r:List Tx} (h:r.length=5) (h1:ei (r.getD 4 [])=true) (h2:(cB (r.getD 4 [])).2≠0):iq r= .error (cB (r.getD 4 [])).2:=by unfold iq; rw [if_pos h,if_neg (by rw [h1]; exact Bool.noConfusion),if_pos h2]
theorem xZ {r:List Tx} (h:r.length=5) (h1:ei (r.getD 4 [])=true) (h2:(cB (r.getD 4 [])).2=0):iq r= .ok (jL (cB (r.getD 4 [])).1):=by unfold iq; rw [if_pos h,if_neg (by rw [h1]; exact Bool.noConfusion),if_neg (fun h3=>h3 h2)]
theorem x3 (s:Tx):(cB s).1.length≤16:=by
 unfold cB
 split
 · simp
 · split
   · simp
   · split
     · simp
     · split
       · simp
       · rename_i h; exact Nat.le_of_not_lt h
theorem yN (B fb mc:Nat) (F:aI) (V:dW) (s:Tx) (w:World) (hF:cD w B fb mc F V) (hk:F.kind=1∨F.kind=2∨F.kind=3) (hal:∀ l∈F.aliases,l.length≤64∧l.Pairwise (· < ·)) (ax:F.aliases.length≤70000) (hs:s.length≤1048576):
 aU Tryz.prog 75 (List.toArray [aH fb,str s]) w (fun v w'=>((∃ a l,v= .tuple #[a,.int .i64 0]∧ed F.kind F.aliases s= .ok l∧World.ownsRow w' w.heap.size 71 1 a l.length (l.map aO))∨(∃ a e,v= .tuple #[a,ae e]∧e≠0∧ed F.kind F.aliases s= .error e))∧Wk w w'):=by
 obtain ⟨ai,gH,O⟩:=bW hF.dI
 have ho10:=hF.dI
 rw [O] at ho10
 have hc10:Hb.aE w.heap fb 10=some (.slice ai F.aliases.length gH):=by rw [← O]; exact (aQ hF.cells).trans rfl
 refine enter Tryz.func75 rfl Tryz.ntmps75 rfl ?_
 refine U (fun _ Y=>(p ak (aj (((Y _ _ (sq (fun _ Z=>sq (fun _ aa=> ?_)))))))))
 refine rg rfl (ag (aH fb) (p (g8 nO rfl rfl) (au ((aa _ _ (cf (rfl) (az (tn (Z _ _ ?_)))))))))
 refine sq (fun _ ab=>U (fun _ ac=>(ag (aH fb) (p (nc rfl) (p (fa eA rfl) (p (fa k9 rfl) (p (ld mu rfl (hc10)) ?_)))))))
 refine p (ba rG rfl rfl) (p (bf rfl rfl) (au ((ac _ _ (cd rfl (fun C=> ?_) (fun C=> ?_))))))
 have i:F.aliases= []:=List.eq_nil_of_length_eq_zero (by omega)
 refine U (fun _ q=>(ag (aH fb) (p (nc rfl) (p (fa eA rfl) (p (fa nw rfl) (p (ld bT rfl ((aQ hF.cells).trans rfl)) (ag (str s) ?_)))))))
 refine e (cl xc (zl F.kind s _ hk hs) rfl fun ay w23 an=> ?_)
 obtain ⟨⟨I,rfl,ho23⟩,hE23⟩:=an
 refine p (xt rfl rfl) (p (xt rfl rfl) (p ak (aj (((q _ _ (rt (tr ?_))))))))
 refine f2 rfl rfl rfl ?_
 refine ⟨?_,hE23⟩
 by_cases h:(cX F.kind s).2=0
 exact .inl ⟨I,_,by rw [h]; rfl,by rw [qp i]; exact qC h,ho23⟩
 exact .inr ⟨I,_,rfl,h,by rw [qp i]; exact qB h⟩
 have i:F.aliases≠[]:=fun h=>by rw [h] at C; exact C rfl
 refine az (tn (ab _ _ (U (fun _ q=>(ag (str s) (ag (aH fb) (p (nc rfl) (p (fa eA rfl) ?_))))))))
 refine p (fa k9 rfl) (p (ld mu rfl (hc10)) (p (ba rG rfl rfl) (e (cl pS (qV s (F.aliases.length:Nat) _ hs (by omega)) rfl fun aA aD ao=> ?_))))
 obtain ⟨rfl,hE34⟩:=ao
 refine p mv (p (xt rfl rfl) (p (xt rfl rfl) (p ak (aj (((q _ _ (sq (fun _ ah=> ?_)))))))))
 refine U (fun _ G=>(p mv (p (bB rfl rfl) (p mv (gs (t:=39) rfl (fun ar=> ?_) (fun ar=> ?_))))))
 refine sk rfl rfl rfl rfl (sk rfl rfl rfl rfl (p (bg rfl) (au ((G _ _ (ct rfl (U (fun _ j=> ?_))))))))
 exact p ak (aj (((j _ _ (rt (tr (f2 rfl rfl rfl (⟨.inr ⟨.slice none 0 0,13,rfl,by decide,yZ i (lk (by omega)).1⟩,hE34⟩))))))))
 refine pg rfl rfl rfl mv (pg rfl rfl rfl (bf rfl rfl) (p (a5 rfl) (au ((G _ _ (cd rfl (fun aq=> ?_) (fun aq=> ?_)))))))
 refine U (fun _ j=>(p ak (aj (((j _ _ (rt (tr ?_))))))))
 refine f2 rfl rfl rfl ?_
 have hnx:=j9 (by omega :(cJ s (F.aliases.length:Nat)).2=0)
 rw [show (cJ s (F.aliases.length:Nat)).1=0 from by omega] at hnx
 exact ⟨.inr ⟨.slice none 0 0,13,rfl,by decide,y2 i hnx⟩,hE34⟩
 refine az (tn (ah _ _ (sq (fun _ j=> ?_))))
 have hnx:=j9 (by omega :(cJ s (F.aliases.length:Nat)).2=0)
 have hnle:=l7 s (F.aliases.length:Nat) (by omega)
 have J:(cJ s (F.aliases.length:Nat)).1 - 1 < F.aliases.length:=by omega
 obtain ⟨aB,E,A⟩:=c4.get (hF.al.wk hE34) J
 obtain ⟨av,xD,rfl⟩:=A.slice
 have hal51:=hal _ (c6 (d:= []) J)
 refine rg rfl (ag (aH fb) (p (nc rfl) (p (fa eA rfl) (p (fa k9 rfl) (p (ld mu rfl (Wk.aE hE34 hc10)) (p mv (p (cM (((cJ s (F.aliases.length:Nat)).1 - 1:Nat):Int) rfl rfl (aR (by omega) (by omega))) ?_)))))))
 refine p (aJ s8 rfl rfl (by omega) (aw.ok ((aM (aG ho10 hE34)).2) (fun h=>by rw [h] at E; cases E))) (p (ld kW rfl (aw.gv (aM (aG ho10 hE34)).2 E)) (e (cl xe (Ay (F.aliases.getD ((cJ s (F.aliases.length:Nat)).1 - 1) []) _ _ _ A.bH.2 (fun h=>Tg.qS A (by simp) h) (by omega)) rfl fun aC w52 ap=> ?_)))
 obtain ⟨M,am⟩:=ap
 rw [JE hal51.2] at M
 exact p ak (aj (((j _ _ (rt (f2 rfl rfl rfl (⟨.inl ⟨_,_,rfl,y1 i hnx (by omega),gi M hE34.size⟩,hE34.trans am⟩)))))))
theorem KO (B:Nat) (H:bO) (F:aI) (V:dW) (R:eI) (rows:List Rw) (ln:Nat) (seen:List Tx) (c:bX) (r:List Tx) (bm:Nat) (A:Option Addr) (C:Nat) (w:World) (hF:cD w B H.fb H.mc F V) (E:bU w B H F R rows ln seen) (hB:ik F rows seen) (c3:c.kind=1∨c.kind=2) (hT:Tg w bm 9 r.length (.slice A r.length C) (r.map str)) (hrl:r.length≤70000∧∀ x∈r,x.length≤70000):
 dO Tryz.prog 102 (List.toArray [.pointer (some ⟨H.rb,0,none⟩),.agg (k0 c).toArray,.slice A r.length C]) w (fun v w'=> ∃ q,eC F.kind F.aliases c ln r= .ok q∧q.line=ln∧(∃ vn,v= .agg (iz (q,vn)).toArray∧Tg w' B 71 q.next.length vn (q.next.map aO))∧Wk w w') (fun c' w'=> ∃ e,eC F.kind F.aliases c ln r= .error e∧c'=fL 25 ln (e:Nat)∧Wk w w'):=by
 have hTs:=hT.bH
 have hrb:=(Array.getElem?_eq_some_iff.1 E.cells).1
 have hlo:=E.lo.1
 refine gy Tryz.func102 rfl Tryz.ntmps102 rfl ?_
 refine sq (fun cT bQ=>rg rfl (e (jt rfl fun aF w4 c1 a8 bF=>e (al vF fun U w6 hb6 ax hB6=> ?_))))
 have ap:Wk w w6:=a8.md.trans ax.md
 have hln6:=Wk.aE ap E.bM
 have hz4:=a8.size
 have hz6:=ax.size
 refine nl (tn (bQ _ _ ?_))
 refine c7 (fun am wC=>(r.length=4∨r.length=5)∧(wC=w6)∧(am 0= .pointer (some ⟨H.rb,0,none⟩))∧(am 2= .slice A r.length C)∧(am 4= .pointer (some ⟨aF,0,none⟩))∧(am 6= .pointer (some ⟨U,0,none⟩))) ?_ ?_
 refine rg rfl (p (aC (.pointer (some ⟨H.rb,0,none⟩)) rfl) (p (aC (.slice A r.length C) rfl) (p (ba dx rfl rfl) (p (bf rfl rfl) (p mv (gs (t:=20) rfl (fun co=> ?_) (fun co=> ?_)))))))
 refine sk rfl rfl rfl rfl (sk rfl rfl rfl rfl (sk rfl rfl rfl rfl (p (bg rfl) (eP rfl (cz eZ (e9 H.rb ln _ 111 w6 hln6 (by decide)) rfl fun cP w25 aV=> ?_) (fun c w' s J hF=>by first | exact absurd s.2.1 (by decide) | exact ⟨111,uW (by omega) (by have :=of_decide_eq_false s.2.1; omega),s.1,by rw [s.2.2]; exact ap⟩)))))
 obtain ⟨rfl,bi,rfl⟩:=aV
 exact nl (tn (⟨(.inl (by omega)),rfl,rfl,rfl,rfl,rfl⟩))
 refine pg rfl rfl rfl (aC (.slice A r.length C) rfl) (pg rfl rfl rfl (ba dx rfl rfl) (pg rfl rfl rfl (bf rfl rfl) (p (a5 rfl) (eP rfl (cz eZ (e9 H.rb ln _ 111 w6 hln6 (by decide)) rfl fun cP w25 aV=> ?_) (fun c w' s J hF=>by first | exact absurd s.2.1 (by decide) | exact ⟨111,uW (by omega) (by have :=of_decide_eq_false s.2.1; omega),s.1,by rw [s.2.2]; exact ap⟩)))))
 obtain ⟨rfl,bi,rfl⟩:=aV
 exact nl (tn (⟨(.inr (by have :=of_decide_eq_true bi; omega)),rfl,rfl,rfl,rfl,rfl⟩))
 rintro am wC ⟨hlen,bN,cp,cq,cr,ct⟩
 refine fx 0 cp (fx 2 cq (fx 4 cr (fx 6 ct ?_)))
 subst bN
 have hq4:=ax.md.B bF
 refine sq (fun cU bR=>rg rfl (p (fa qz rfl) (p (ld bT rfl ((hq4.aE 1).trans rfl)) (p (fa tB rfl) (p (ld bL rfl ((hq4.aE 0).trans rfl)) (p (fa zb rfl) (p (ld pF rfl ((hq4.aE 2).trans rfl)) ?_)))))))
 refine p (bZ (ps:= [(0,.int .i64 (c.kind:Nat)),(1,aO c.flag),(2,.bool c.dX),(5,str [46])]) (L:= [.int .i64 (c.kind:Nat),aO c.flag,.bool c.dX,.string ⟨⟨[]⟩⟩,.string ⟨⟨[]⟩⟩,str [46],.slice none 0 0]) Lu rfl (rfl)) (e (al vF fun b7 w7 c2 ay bI=> ?_))
 have hz7:=ay.size
 refine e (bY sQ rfl rfl rfl rfl (bI) (by simp) fun wt2_8 ar bB=> ?_)
 have aq:Wk w wt2_8:=(ap.trans ay.md).trans' ar (fun k hk h=>by omega)
 have hb48:=ar.B (ay.md.B hq4) (fun h=>by omega)
 have hb68:=ar.B (ay.md.B hB6) (fun h=>by omega)
 have hz8:=ar.size
 have hT8s:=(hT.wk aq).bH
 have c4:(r.getD 2 []).length≤70000:=hrl.2 _ (c6 (by omega))
 have c5:(r.getD 3 []).length≤70000:=hrl.2 _ (c6 (by omega))
 refine nl (tn (bR _ _ (sq (fun cV bV=>rg rfl (p (aC (.pointer (some ⟨H.rb,0,none⟩)) rfl) (p (aC (.slice A r.length C) rfl) (p (aJ bE rfl rfl (by omega) (aw.ok (hT8s.2) (bp (by omega)))) (p (ld bz rfl (bu.get (i:=2) hT8s.2 (by omega))) ?_))))))))
 refine eP rfl (cz xa (AI H.rb ln (r.getD 2 []) wt2_8 (Wk.aE aq E.bM) (by omega)) rfl fun dc w37 b3=> ?_) (fun c w' s J hF=>by obtain ⟨e,he,h,h2⟩:=s; exact ⟨e,by rw [jn hlen,he],h,aq.trans h2⟩)
 obtain ⟨stx,bD,rfl,ac⟩:=b3
 refine p (fa G2 rfl) (e (st iN rfl rfl (rfl) (ac.B bB) (by simp) fun wt3_6 au bC=> ?_))
 have a4:bG wt3_6.heap b7 [.int .i64 (c.kind:Nat),aO c.flag,.bool c.dX,str stx,str [],str [46],.slice none 0 0]:=bC
 have a6:Wk w wt3_6:=(aq.trans ac).trans' au (fun k hk h=>by omega)
 have hz37:=ac.size
 have hb43:=au.B (ac.B hb48) (fun h=>by omega)
 have hb63:=au.B (ac.B hb68) (fun h=>by omega)
 have hT3s:=(hT.wk a6).bH
 have hz3:=au.size
 refine nl (tn (bV _ _ (sq (fun cW b0=>rg rfl (p (aC (.slice A r.length C) rfl) (p (aJ bE rfl rfl (by omega) (aw.ok (hT3s.2) (bp (by omega)))) (p (ld bz rfl (bu.get (i:=3) hT3s.2 (by omega))) (e (cl sA (vE (r.getD 3 []) _ (by omega)) rfl fun dd w43 b4=> ?_)))))))))
 obtain ⟨rfl,hE43⟩:=b4
 have hE4:=a6.trans hE43
 have hwl:=mV (r.getD 3 [])
 refine p mv (p (xt rfl rfl) (p (xt rfl rfl) (p (xt rfl rfl) (p (xt rfl rfl) (p ak (p ak (p ak ?_)))))))
 refine p ak (nl (tn (b0 _ _ (sq (fun cX b1=>rg rfl (p (aC (.pointer (some ⟨H.rb,0,none⟩)) rfl) (p mv (eP rfl (cz kt (kG H.rb ln ((aW (r.getD 3 [])).2.2.2:Nat) w43 (Wk.aE hE4 E.bM)) rfl fun de cR b5=> ?_) (fun c w' s J hF=>⟨_,by rw [jn hlen,bD,vQ (show (aW (r.getD 3 [])).2.2.2≠0 by have :=s.2.1; omega)],s.1,by rw [s.2.2]; exact hE4⟩)))))))))
 obtain ⟨rfl,aB,rfl⟩:=b5
 have aB:(aW (r.getD 3 [])).2.2.2=0:=by omega
 refine nl (tn (b1 _ _ ?_))
 refine c7 (fun M aa=> ∃ (O:Tx),(gQ (aW (r.getD 3 []))= .ok O)∧(bG aa.heap b7 [.int .i64 (c.kind:Nat),aO c.flag,.bool c.dX,str stx,str O,str [46],.slice none 0 0])∧(bG aa.heap aF (k0 c))∧(∃ L,L.length=7∧bG aa.heap U L)∧(Wk w aa)∧(M 0= .pointer (some ⟨H.rb,0,none⟩))∧(M 2= .slice A r.length C)∧(M 4= .pointer (some ⟨aF,0,none⟩))∧(M 6= .pointer (some ⟨U,0,none⟩))∧(M 7= .pointer (some ⟨b7,0,none⟩))∧(M 9=str (aW (r.getD 3 [])).2.1)∧(M 10= .bool (aW (r.getD 3 [])).2.2.1)) ?_ ?_
 refine sq (fun aD Y=>rg rfl (p mv (p (j8 rfl rfl) (nl (tn (Y _ _ (cd rfl (fun aA=> ?_) (fun aA=> ?_))))))))
 refine rg rfl (p (aC (.pointer (some ⟨H.rb,0,none⟩)) rfl) (p mv (eP rfl (cz xg (AT H.rb ln (aW (r.getD 3 [])).1 cR (Wk.aE hE4 E.bM) (by omega)) rfl fun df w55 b6=> ?_) (fun c w' s J hF=>⟨_,by rw [jn hlen,bD,vR aB aA s.2.1],s.1,hE4.trans s.2.2⟩))))
 obtain ⟨rfl,cM,ae⟩:=b6
 refine p (fa G3 rfl) (e (st iN rfl rfl (rfl) (Wk.B (hE43.trans ae) a4) (by simp) fun wt7_4 aU bJ=> ?_))
 have hE7:Wk w wt7_4:=(hE4.trans ae).trans' aU (fun k hk h=>by omega)
 have hz5:=(hE43.trans ae).size
 exact nl (tn (⟨(aW (r.getD 3 [])).1,(vS aB aA cM),bJ,(aU.B (Wk.B (hE43.trans ae) hb43) (fun h=>by omega)),(⟨_,rfl,aU.B (Wk.B (hE43.trans ae) hb63) (fun h=>by omega)⟩),hE7,rfl,rfl,rfl,rfl,rfl,rfl,rfl⟩))
 exact az (tn (⟨[],(vT aB (Classical.not_not.1 aA)),(hE43.B a4),(hE43.B hb43),(⟨_,rfl,hE43.B hb63⟩),hE4,rfl,rfl,rfl,rfl,rfl,rfl,rfl⟩))
 rintro M aa ⟨O,ah,ao,ch,bc,G,cu,cw,cx,cy,cA,cC,cv⟩
 refine fx 0 cu (fx 2 cw (fx 4 cx (fx 6 cy (fx 7 cA (fx 9 cC (fx 10 cv ?_))))))
 skip
 refine c7 (fun an I=> ∃ (nx:List Nat) (vn:Value),(ic F.kind F.aliases c.kind (aW (r.getD 3 []))= .ok nx)∧(bG I.heap b7 [.int .i64 (c.kind:Nat),aO c.flag,.bool c.dX,str stx,str O,str [46],vn])∧(Tg I (b7+1) 71 nx.length vn (nx.map aO))∧(∃ L,L.length=7∧bG I.heap U L)∧(Wk w I)∧(an 0= .pointer (some ⟨H.rb,0,none⟩))∧(an 2= .slice A r.length C)∧(an 6= .pointer (some ⟨U,0,none⟩))∧(an 7= .pointer (some ⟨b7,0,none⟩))) ?_ ?_
 refine sq (fun aD Y=>rg rfl (p (aC (.bool (aW (r.getD 3 [])).2.2.1) rfl) (nl (tn (Y _ _ (cb rfl (fun ai=> ?_) (fun ai=> ?_)))))))
 skip
 refine sq (fun bn aL=>rg rfl (p (aC (.pointer (some ⟨H.rb,0,none⟩)) rfl) (p (fa qz rfl) (p (ld bT rfl ((ch.aE 1).trans rfl)) (p (bf rfl rfl) (eP rfl (cz eZ (e9 H.rb ln _ 118 aa (Wk.aE G E.bM) (by decide)) rfl fun dg bl b8=> ?_) (fun c' w' s J hF=>by have h0:=of_decide_eq_false s.2.1; exact ⟨118,by rw [jn hlen,bD]; simp only; rw [ah]; simp only; rw [An ai (by omega)],s.1,by rw [s.2.2]; exact G⟩)))))))
 obtain ⟨rfl,hx62,rfl⟩:=b8
 have hx62:=of_decide_eq_true hx62
 refine nl (tn (aL _ _ (sq (fun bo aN=>rg rfl (p (aC (.pointer (some ⟨H.rb,0,none⟩)) rfl) (p (nc rfl) (p (fa eR rfl) (p (ld ew rfl (Wk.aE G ((aQ E.cells).trans rfl))) ?_))))))))
 refine p (aC (str (aW (r.getD 3 [])).2.1) rfl) (e (cl xJ (yN B H.fb H.mc F V (aW (r.getD 3 [])).2.1 _ (hF.wk G) hB.kd hB.al (by have :=hB.len; omega) (by have :=mV (r.getD 3 []); omega)) rfl fun cQ w69 b9=> ?_))
 obtain ⟨cm,hE69⟩:=b9
 obtain ⟨a2,a3,rfl,hcs⟩:∃ a,∃ e:Nat,cQ= .tuple #[a,.int .i64 (e:Nat)]∧((e=0∧∃ l,ed F.kind F.aliases (aW (r.getD 3 [])).2.1= .ok l∧World.ownsRow w69 bl.heap.size 71 1 a l.length (l.map aO))∨(e≠0∧ed F.kind F.aliases (aW (r.getD 3 [])).2.1= .error e)):=by
  rcases cm with ⟨a,l,h1,h2,h3⟩ | ⟨a,e,h1,h2,h3⟩
  exact ⟨a,0,h1,.inl ⟨rfl,l,h2,h3⟩⟩
  exact ⟨a,e,h1,.inr ⟨h2,h3⟩⟩
 refine p mv (p (xt rfl rfl) (p (xt rfl rfl) (p ak (p ak (nl (tn (aN _ _ (sq (fun bq aP=> ?_)))))))))
 refine rg rfl (p (aC (.pointer (some ⟨H.rb,0,none⟩)) rfl) (p mv ?_))
 refine eP rfl (cz kt (kG H.rb ln (a3:Nat) w69 (Wk.aE (G.trans hE69) E.bM)) rfl fun dh cS ca=> ?_) (fun c' w' s J hF=>by
  rcases hcs with ⟨h,_⟩ | ⟨h,h1⟩
  exact absurd (by omega) s.2.1
  exact ⟨a3,by rw [jn hlen,bD]; simp only; rw [ah]; simp only; rw [qR ai (by omega),h1],s.1,by rw [s.2.2]; exact G.trans hE69⟩)
 obtain ⟨rfl,db,rfl⟩:=ca
 obtain ⟨nx,hnx,aX⟩:∃ l,ed F.kind F.aliases (aW (r.getD 3 [])).2.1= .ok l∧World.ownsRow cS bl.heap.size 71 1 a2 l.length (l.map aO):=by
  rcases hcs with ⟨_,h⟩ | ⟨h,_⟩
  exact h
  exact absurd (by omega) h
 refine nl (tn (aP _ _ (rg rfl (p mv (p (fa qy rfl) (e (st p8 rfl rfl (dU aX) (hE69.B ao) (by simp) fun wt12_2 aS bt=> ?_)))))))
 have hE12:Wk w wt12_2:=(G.trans hE69).trans' aS (fun k hk h=>by omega)
 have hz69:=hE69.size
 exact nl (tn (⟨nx,a2,((by rw [qR ai (by omega)]; exact hnx)),bt,(((Tg.fY (bS aX aS (fun k hk h=>by have :=cG aX hk; have :=ao.lt; omega))).mono ao.lt)),((by obtain ⟨L,aR,hb⟩:=bc; exact ⟨L,aR,aS.B (hE69.B hb) (fun h=>by omega)⟩)),hE12,rfl,rfl,rfl,rfl⟩))
 exact az (tn (⟨[],.slice none 0 0,(Ao (by simpa using ai)),ao,(⟨none,0,rfl,Nat.le_refl _,.inl rfl⟩),bc,G,rfl,rfl,rfl,rfl⟩))
 rintro an I ⟨nx,vn,hnx,aG,bb,bd,ag,cE,cF,cH,cI⟩
 refine fx 0 cE (fx 2 cF (fx 6 cH (fx 7 cI ?_)))
 refine c7 (fun a1 aj=> ∃ (ab:Tx),(iq r= .ok ab)∧(bG aj.heap b7 [.int .i64 (c.kind:Nat),aO c.flag,.bool c.dX,str stx,str O,str ab,vn])∧(Tg aj (b7+1) 71 nx.length vn (nx.map aO))∧(∃ L,L.length=7∧bG aj.heap U L)∧(Wk w aj)∧(a1 6= .pointer (some ⟨U,0,none⟩))∧(a1 7= .pointer (some ⟨b7,0,none⟩))) ?_ ?_
 refine sq (fun aD Y=>rg rfl (p (aC (.slice A r.length C) rfl) (p (ba dx rfl rfl) (p (bf rfl rfl) (nl (tn (Y _ _ (cd rfl (fun ck=> ?_) (fun ck=> ?_)))))))))
 have aZ:r.length=5:=by omega
 have da:(r.getD 4 []).length≤70000:=hrl.2 _ (c6 (by omega))
 have hTDs:=(hT.wk ag).bH
 refine sq (fun bn aL=>rg rfl (p (aC (.pointer (some ⟨H.rb,0,none⟩)) rfl) (p (aC (.slice A r.length C) rfl) (p (aJ bE rfl rfl (by omega) (aw.ok (hTDs.2) (bp (by omega)))) (p (ld bz rfl (bu.get (i:=4) hTDs.2 (by omega))) (eP rfl (cz sF (uK H.rb ln (r.getD 4 []) I (Wk.aE ag E.bM) (by omega)) rfl fun di w84 cc=> ?_) (fun c' w' s J hF=>⟨21,by rw [jn hlen,bD]; simp only; rw [ah]; simp only; rw [hnx]; simp only; rw [xX aZ s.2.1],s.1,ag.trans s.2.2⟩)))))))
 obtain ⟨rfl,bj,aK⟩:=cc
 have hE84x:=ag.trans aK
 have hTEs:=(hT.wk hE84x).bH
 refine nl (tn (aL _ _ (sq (fun bo aN=>rg rfl (p (aC (.slice A r.length C) rfl) (p (aJ bE rfl rfl (by omega) (aw.ok (hTEs.2) (bp (by omega)))) (p (ld bz rfl (bu.get (i:=4) hTEs.2 (by omega))) (e (cl Dn (Fq (r.getD 4 []) _ (by omega)) rfl fun dj w89 ce=> ?_)))))))))
 obtain ⟨⟨cZ,rfl,aY⟩,hE89⟩:=ce
 obtain ⟨cN,cO,rfl⟩:=bW aY
 have hE89x:=hE84x.trans hE89
 refine p mv (p (xt rfl rfl) (p (xt rfl rfl) (e (al vG fun c0 w14 hb14 av bv=> ?_))))
 have hE14:=hE89x.trans av.md
 refine e (bY mD rfl rfl rfl rfl (bv) (by simp) fun wt15_8 Z bw=> ?_)
 have aH:Wk w wt15_8:=hE14.trans' Z (fun k hk h=>by have :=hE89x.size; omega)
 have a0:Wk I w14:=(aK.trans hE89).trans av.md
 have hzD:=aK.size
 have hzE:=hE89.size
 have hzF:=av.size
 have hzG:=Z.size
 have cL:Wk I wt15_8:=a0.trans' Z (fun k hk h=>by omega)
 refine p ak (nl (tn (aN _ _ (sq (fun bq aP=>rg rfl (p (aC (.pointer (some ⟨H.rb,0,none⟩)) rfl) (p mv (eP rfl (cz kt (kG H.rb ln ((cB (r.getD 4 [])).2:Nat) wt15_8 (Wk.aE aH E.bM)) rfl fun dk dm cf=> ?_) (fun c' w' s J hF=>⟨_,by rw [jn hlen,bD]; simp only; rw [ah]; simp only; rw [hnx]; simp only; rw [xY aZ bj (by have :=s.2.1; omega)],s.1,by rw [s.2.2]; exact aH⟩)))))))))
 obtain ⟨rfl,bk,rfl⟩:=cf
 have bk:(cB (r.getD 4 [])).2=0:=by omega
 refine nl (tn (aP _ _ (rg rfl (p (dB lN rfl (rfl) (fun j bh=>bw.c8 j)) (e (cl Dp (Kf (cB (r.getD 4 [])).1 cN cO _ (aw.md (aw.wk (aM aY).2 av.md) Z (fun hne h=>by have :=JM aY hne; omega)) (by have :=x3 (r.getD 4 []); omega)) rfl fun dl w96 cg=> ?_))))))
 obtain ⟨rfl,hE96⟩:=cg
 have hE96x:=aH.trans hE96
 have hz96:=hE96.size
 refine p (fa G4 rfl) (e (st iN rfl rfl (rfl) (hE96.B (Z.B (a0.B aG) (fun h=>by have :=aG.lt; omega))) (by simp) fun wt17_3 aT bx=> ?_))
 have hE17:Wk w wt17_3:=hE96x.trans' aT (fun k hk h=>by omega)
 exact nl (tn (⟨jL (cB (r.getD 4 [])).1,(xZ aZ bj bk),bx,((Tg.Ah (Tg.wk bb (cL.trans hE96)) aT (fun k hk=>by omega))),((by obtain ⟨L,aR,hb⟩:=bd; exact ⟨L,aR,aT.B (hE96.B (Z.B (a0.B hb) (fun h=>by have :=hb.lt; omega))) (fun h=>by omega)⟩)),hE17,rfl,rfl⟩))
 exact az (tn (⟨[46],(x2 (by omega)),aG,bb,bd,ag,rfl,rfl⟩))
 rintro a1 aj ⟨ab,cn,bK,a9,ci,bP,cJ,cK⟩
 refine fx 6 cJ (fx 7 cK ?_)
 obtain ⟨cY,b2,cj⟩:=ci
 obtain ⟨br,bs,rfl⟩:=a9.slice
 refine sq (fun aD Y=>rg rfl (p (dB rW rfl (rfl) (fun j bh=>bK.c8 j)) (e (bY sQ rfl rfl rfl rfl (cj) (by rw [b2]; decide) fun dn a7 bA=>nl (tn (Y _ _ (rt (gh ?_))))))))
 exact ow rfl (c9 (cs:=iz (⟨c.kind,c.flag,c.dX,stx,O,ab,nx,ln⟩,.slice br nx.length bs)) rfl rW rfl (fun j bh=>by rw [bA.c8 j,List.drop_eq_nil_of_le (by omega),List.append_nil]; rfl)) (⟨⟨c.kind,c.flag,c.dX,stx,O,ab,nx,ln⟩,by rw [jn hlen,bD]; simp only; rw [ah]; simp only; rw [hnx]; simp only; rw [cn],rfl,⟨_,rfl,(Tg.Ah a9 a7 (fun k hk=>by have :=ax.size; omega)).mono (by omega)⟩,bP.trans' a7 (fun k hk h=>by omega)⟩)
end Go.Hb.fP
end
section
set_option maxRecDepth 20000
set_option maxHeartbeats 1000000
namespace Go.Hb.kf
open Go.Hb.di
open Go.Proofs
open Go.Hb.eX
def e7 (s:Tx):Option Value:=if s=bQ then some (Value.agg #[.int .i64 (4:Nat),.func (.func 65) #[] #[]]) else if s=dQ then some (Value.agg #[.int .i64 (4:Nat),.func (.func 65) #[] #[]]) else if s=db then some (Value.agg #[.int .i64 (2:Nat),.func (.func 64) #[] #[]]) else if s=dE then some (Value.agg #[.int .i64 (2:Nat),.func (.func 63) #[] #[]]) else if s=gz then some (Value.agg #[.int .i64 (2:Nat),.func (.func 62) #[] #[]]) else if s=iy then some (Value.agg #[.int .i64 (2:Nat),.func (.func 61) #[] #[]]) else if s=hZ then some (Value.agg #[.int .i64 (2:Nat),.func (.func 61) #[] #[]]) else if s=gS then some (Value.agg #[.int .i64 (2:Nat),.func (.func 61) #[] #[]]) else if s=gJ then some (Value.agg #[.int .i64 (2:Nat),.func (.func 61) #[] #[]]) else if s=gA then some (Value.agg #[.int .i64 (2:Nat),.func (.func 61) #[] #[]]) else if s=fu then some (Value.agg #[.int .i64 (2:Nat),.func (.func 60) #[] #[]]) else if s=e8 then some (Value.agg #[.int .i64 (2:Nat),.func (.func 59) #[] #[]]) else if s=eS then some (Value.agg #[.int .i64 (2:Nat),.func (.func 58) #[] #[]]) else none
def zF:Value→Option Value:=fun _=>none
def zG:Tx→Option Value:=fun _=>none
theorem str_inj {a b:Tx} :str a=str b↔a=b:=⟨fun h=>by unfold str at h; cases h; rfl,fun h=>by rw [h]⟩
theorem jm {f:Value→Option Value} {g:Tx→Option Value} {k:Tx} {v:Value} (h:∀ s,f (str s)=g s) (s:Tx):bj f (str k) v (str s)=if s=k then some v else g s:=by
 by_cases hs:s=k
 · subst hs; rw [oR,if_pos rfl]
 · rw [nH (fun h2=>hs (str_inj.1 h2)),if_neg hs,h s]
theorem H4 (w:World):
 aU Tryz.prog 32 (List.toArray []) w (fun v w'=> ∃ b,v= .map (some b)∧b=w.heap.size∧(∃ f,bP w'.heap b fM f∧∀ s,f (str s)=e7 s)∧Wk w w'):=by
 refine enter Tryz.func32 rfl Tryz.ntmps32 rfl ?_
 refine U (fun _ i=>(aj (((i _ _ (U (fun _ j=>(e (oK fun a w1 aT ap hB1=> ?_)))))))))
 have aq:bP w1.heap a fM zF:=bP.nil hB1
 have aV:∀ s:Tx,zF (str s)=zG s:=fun _=>rfl
 have q:Wk w w1:=ap.md
 refine p (bZ (ps:= [(0,ae 2),(1,.func (.func 58) #[] #[])]) (L:= [ae 2,.func (.func 58) #[] #[]]) jq rfl (rfl)) (e (jj iT fw (aq) rfl rfl rfl (⟨_,rfl⟩) fun wm1_2 ag ay=> ?_))
 have aG:bP wm1_2.heap a fM (bj zF (str eS) (Value.agg #[ae 2,.func (.func 58) #[] #[]])):=ay
 have hg1:=jm (k:=eS) (v:=Value.agg #[ae 2,.func (.func 58) #[] #[]]) aV
 have A:Wk w wm1_2:=q.trans' ag (fun k hk h=>by omega)
 refine p (bZ (ps:= [(0,ae 2),(1,.func (.func 59) #[] #[])]) (L:= [ae 2,.func (.func 59) #[] #[]]) jq rfl (rfl)) (e (jj iT fw (aG) rfl rfl rfl (⟨_,rfl⟩) fun wm1_4 am aD=> ?_))
 have aH:bP wm1_4.heap a fM (bj (bj zF (str eS) (Value.agg #[ae 2,.func (.func 58) #[] #[]])) (str e8) (Value.agg #[ae 2,.func (.func 59) #[] #[]])):=aD
 have hg2:=jm (k:=e8) (v:=Value.agg #[ae 2,.func (.func 59) #[] #[]]) hg1
 have I:Wk w wm1_4:=A.trans' am (fun k hk h=>by omega)
 refine p (bZ (ps:= [(0,ae 2),(1,.func (.func 60) #[] #[])]) (L:= [ae 2,.func (.func 60) #[] #[]]) jq rfl (rfl)) (e (jj iT fw (aH) rfl rfl rfl (⟨_,rfl⟩) fun wm1_6 an aE=> ?_))
 have aL:bP wm1_6.heap a fM (bj (bj (bj zF (str eS) (Value.agg #[ae 2,.func (.func 58) #[] #[]])) (str e8) (Value.agg #[ae 2,.func (.func 59) #[] #[]])) (str fu) (Value.agg #[ae 2,.func (.func 60) #[] #[]])):=aE
 have hg3:=jm (k:=fu) (v:=Value.agg #[ae 2,.func (.func 60) #[] #[]]) hg2
 have J:Wk w wm1_6:=I.trans' an (fun k hk h=>by omega)
 refine p (bZ (ps:= [(0,ae 2),(1,.func (.func 61) #[] #[])]) (L:= [ae 2,.func (.func 61) #[] #[]]) jq rfl (rfl)) (e (jj iT fw (aL) rfl rfl rfl (⟨_,rfl⟩) fun wm1_8 ao aF=> ?_))
 have aM:bP wm1_8.heap a fM (bj (bj (bj (bj zF (str eS) (Value.agg #[ae 2,.func (.func 58) #[] #[]])) (str e8) (Value.agg #[ae 2,.func (.func 59) #[] #[]])) (str fu) (Value.agg #[ae 2,.func (.func 60) #[] #[]])) (str gA) (Value.agg #[ae 2,.func (.func 61) #[] #[]])):=aF
 have hg4:=jm (k:=gA) (v:=Value.agg #[ae 2,.func (.func 61) #[] #[]]) hg3
 have hE4:Wk w wm1_8:=J.trans' ao (fun k hk h=>by omega)
 refine p (bZ (ps:= [(0,ae 2),(1,.func (.func 61) #[] #[])]) (L:= [ae 2,.func (.func 61) #[] #[]]) jq rfl (rfl)) (e (jj iT fw (aM) rfl rfl rfl (⟨_,rfl⟩) fun wm1_10 Y ar=> ?_))
 have aN:bP wm1_10.heap a fM (bj (bj (bj (bj (bj zF (str eS) (Value.agg #[ae 2,.func (.func 58) #[] #[]])) (str e8) (Value.agg #[ae 2,.func (.func 59) #[] #[]])) (str fu) (Value.agg #[ae 2,.func (.func 60) #[] #[]])) (str gA) (Value.agg #[ae 2,.func (.func 61) #[] #[]])) (str gJ) (Value.agg #[ae 2,.func (.func 61) #[] #[]])):=ar
 have hg5:=jm (k:=gJ) (v:=Value.agg #[ae 2,.func (.func 61) #[] #[]]) hg4
 have hE5:Wk w wm1_10:=hE4.trans' Y (fun k hk h=>by omega)
 refine p (bZ (ps:= [(0,ae 2),(1,.func (.func 61) #[] #[])]) (L:= [ae 2,.func (.func 61) #[] #[]]) jq rfl (rfl)) (e (jj iT fw (aN) rfl rfl rfl (⟨_,rfl⟩) fun wm1_12 Z au=> ?_))
 have aO:bP wm1_12.heap a fM (bj (bj (bj (bj (bj (bj zF (str eS) (Value.agg #[ae 2,.func (.func 58) #[] #[]])) (str e8) (Value.agg #[ae 2,.func (.func 59) #[] #[]])) (str fu) (Value.agg #[ae 2,.func (.func 60) #[] #[]])) (str gA) (Value.agg #[ae 2,.func (.func 61) #[] #[]])) (str gJ) (Value.agg #[ae 2,.func (.func 61) #[] #[]])) (str gS) (Value.agg #[ae 2,.func (.func 61) #[] #[]])):=au
 have hg6:=jm (k:=gS) (v:=Value.agg #[ae 2,.func (.func 61) #[] #[]]) hg5
 have M:Wk w wm1_12:=hE5.trans' Z (fun k hk h=>by omega)
 refine p (bZ (ps:= [(0,ae 2),(1,.func (.func 61) #[] #[])]) (L:= [ae 2,.func (.func 61) #[] #[]]) jq rfl (rfl)) (e (jj iT fw (aO) rfl rfl rfl (⟨_,rfl⟩) fun wm1_14 aa av=> ?_))
 have aP:bP wm1_14.heap a fM (bj (bj (bj (bj (bj (bj (bj zF (str eS) (Value.agg #[ae 2,.func (.func 58) #[] #[]])) (str e8) (Value.agg #[ae 2,.func (.func 59) #[] #[]])) (str fu) (Value.agg #[ae 2,.func (.func 60) #[] #[]])) (str gA) (Value.agg #[ae 2,.func (.func 61) #[] #[]])) (str gJ) (Value.agg #[ae 2,.func (.func 61) #[] #[]])) (str gS) (Value.agg #[ae 2,.func (.func 61) #[] #[]])) (str hZ) (Value.agg #[ae 2,.func (.func 61) #[] #[]])):=av
 have hg7:=jm (k:=hZ) (v:=Value.agg #[ae 2,.func (.func 61) #[] #[]]) hg6
 have hE7:Wk w wm1_14:=M.trans' aa (fun k hk h=>by omega)
 refine p (bZ (ps:= [(0,ae 2),(1,.func (.func 61) #[] #[])]) (L:= [ae 2,.func (.func 61) #[] #[]]) jq rfl (rfl)) (e (jj iT fw (aP) rfl rfl rfl (⟨_,rfl⟩) fun wm1_16 ab aw=> ?_))
 have aQ:bP wm1_16.heap a fM (bj (bj (bj (bj (bj (bj (bj (bj zF (str eS) (Value.agg #[ae 2,.func (.func 58) #[] #[]])) (str e8) (Value.agg #[ae 2,.func (.func 59) #[] #[]])) (str fu) (Value.agg #[ae 2,.func (.func 60) #[] #[]])) (str gA) (Value.agg #[ae 2,.func (.func 61) #[] #[]])) (str gJ) (Value.agg #[ae 2,.func (.func 61) #[] #[]])) (str gS) (Value.agg #[ae 2,.func (.func 61) #[] #[]])) (str hZ) (Value.agg #[ae 2,.func (.func 61) #[] #[]])) (str iy) (Value.agg #[ae 2,.func (.func 61) #[] #[]])):=aw
 have hg8:=jm (k:=iy) (v:=Value.agg #[ae 2,.func (.func 61) #[] #[]]) hg7
 have O:Wk w wm1_16:=hE7.trans' ab (fun k hk h=>by omega)
 refine p (bZ (ps:= [(0,ae 2),(1,.func (.func 62) #[] #[])]) (L:= [ae 2,.func (.func 62) #[] #[]]) jq rfl (rfl)) (e (jj iT fw (aQ) rfl rfl rfl (⟨_,rfl⟩) fun wm1_18 ac ax=> ?_))
 have aR:bP wm1_18.heap a fM (bj (bj (bj (bj (bj (bj (bj (bj (bj zF (str eS) (Value.agg #[ae 2,.func (.func 58) #[] #[]])) (str e8) (Value.agg #[ae 2,.func (.func 59) #[] #[]])) (str fu) (Value.agg #[ae 2,.func (.func 60) #[] #[]])) (str gA) (Value.agg #[ae 2,.func (.func 61) #[] #[]])) (str gJ) (Value.agg #[ae 2,.func (.func 61) #[] #[]])) (str gS) (Value.agg #[ae 2,.func (.func 61) #[] #[]])) (str hZ) (Value.agg #[ae 2,.func (.func 61) #[] #[]])) (str iy) (Value.agg #[ae 2,.func (.func 61) #[] #[]])) (str gz) (Value.agg #[ae 2,.func (.func 62) #[] #[]])):=ax
 have hg9:=jm (k:=gz) (v:=Value.agg #[ae 2,.func (.func 62) #[] #[]]) hg8
 have V:Wk w wm1_18:=O.trans' ac (fun k hk h=>by omega)
 refine p (bZ (ps:= [(0,ae 2),(1,.func (.func 63) #[] #[])]) (L:= [ae 2,.func (.func 63) #[] #[]]) jq rfl (rfl)) (e (jj iT fw (aR) rfl rfl rfl (⟨_,rfl⟩) fun wm1_20 ah az=> ?_))
 have aS:bP wm1_20.heap a fM (bj (bj (bj (bj (bj (bj (bj (bj (bj (bj zF (str eS) (Value.agg #[ae 2,.func (.func 58) #[] #[]])) (str e8) (Value.agg #[ae 2,.func (.func 59) #[] #[]])) (str fu) (Value.agg #[ae 2,.func (.func 60) #[] #[]])) (str gA) (Value.agg #[ae 2,.func (.func 61) #[] #[]])) (str gJ) (Value.agg #[ae 2,.func (.func 61) #[] #[]])) (str gS) (Value.agg #[ae 2,.func (.func 61) #[] #[]])) (str hZ) (Value.agg #[ae 2,.func (.func 61) #[] #[]])) (str iy) (Value.agg #[ae 2,.func (.func 61) #[] #[]])) (str gz) (Value.agg #[ae 2,.func (.func 62) #[] #[]])) (str dE) (Value.agg #[ae 2,.func (.func 63) #[] #[]])):=az
 have hg10:=jm (k:=dE) (v:=Value.agg #[ae 2,.func (.func 63) #[] #[]]) hg9
 have C:Wk w wm1_20:=V.trans' ah (fun k hk h=>by omega)
 refine p (bZ (ps:= [(0,ae 2),(1,.func (.func 64) #[] #[])]) (L:= [ae 2,.func (.func 64) #[] #[]]) jq rfl (rfl)) (e (jj iT fw (aS) rfl rfl rfl (⟨_,rfl⟩) fun wm1_22 ai aA=> ?_))
 have aI:bP wm1_22.heap a fM (bj (bj (bj (bj (bj (bj (bj (bj (bj (bj (bj zF (str eS) (Value.agg #[ae 2,.func (.func 58) #[] #[]])) (str e8) (Value.agg #[ae 2,.func (.func 59) #[] #[]])) (str fu) (Value.agg #[ae 2,.func (.func 60) #[] #[]])) (str gA) (Value.agg #[ae 2,.func (.func 61) #[] #[]])) (str gJ) (Value.agg #[ae 2,.func (.func 61) #[] #[]])) (str gS) (Value.agg #[ae 2,.func (.func 61) #[] #[]])) (str hZ) (Value.agg #[ae 2,.func (.func 61) #[] #[]])) (str iy) (Value.agg #[ae 2,.func (.func 61) #[] #[]])) (str gz) (Value.agg #[ae 2,.func (.func 62) #[] #[]])) (str dE) (Value.agg #[ae 2,.func (.func 63) #[] #[]])) (str db) (Value.agg #[ae 2,.func (.func 64) #[] #[]])):=aA
 have hg11:=jm (k:=db) (v:=Value.agg #[ae 2,.func (.func 64) #[] #[]]) hg10
 have E:Wk w wm1_22:=C.trans' ai (fun k hk h=>by omega)
 refine p (bZ (ps:= [(0,ae 4),(1,.func (.func 65) #[] #[])]) (L:= [ae 4,.func (.func 65) #[] #[]]) jq rfl (rfl)) (e (jj iT fw (aI) rfl rfl rfl (⟨_,rfl⟩) fun wm1_24 ak aB=> ?_))
 have aJ:bP wm1_24.heap a fM (bj (bj (bj (bj (bj (bj (bj (bj (bj (bj (bj (bj zF (str eS) (Value.agg #[ae 2,.func (.func 58) #[] #[]])) (str e8) (Value.agg #[ae 2,.func (.func 59) #[] #[]])) (str fu) (Value.agg #[ae 2,.func (.func 60) #[] #[]])) (str gA) (Value.agg #[ae 2,.func (.func 61) #[] #[]])) (str gJ) (Value.agg #[ae 2,.func (.func 61) #[] #[]])) (str gS) (Value.agg #[ae 2,.func (.func 61) #[] #[]])) (str hZ) (Value.agg #[ae 2,.func (.func 61) #[] #[]])) (str iy) (Value.agg #[ae 2,.func (.func 61) #[] #[]])) (str gz) (Value.agg #[ae 2,.func (.func 62) #[] #[]])) (str dE) (Value.agg #[ae 2,.func (.func 63) #[] #[]])) (str db) (Value.agg #[ae 2,.func (.func 64) #[] #[]])) (str dQ) (Value.agg #[ae 4,.func (.func 65) #[] #[]])):=aB
 have hg12:=jm (k:=dQ) (v:=Value.agg #[ae 4,.func (.func 65) #[] #[]]) hg11
 have hE12:Wk w wm1_24:=E.trans' ak (fun k hk h=>by omega)
 refine p (bZ (ps:= [(0,ae 4),(1,.func (.func 65) #[] #[])]) (L:= [ae 4,.func (.func 65) #[] #[]]) jq rfl (rfl)) (e (jj iT fw (aJ) rfl rfl rfl (⟨_,rfl⟩) fun wm1_26 al aC=> ?_))
 have aK:bP wm1_26.heap a fM (bj (bj (bj (bj (bj (bj (bj (bj (bj (bj (bj (bj (bj zF (str eS) (Value.agg #[ae 2,.func (.func 58) #[] #[]])) (str e8) (Value.agg #[ae 2,.func (.func 59) #[] #[]])) (str fu) (Value.agg #[ae 2,.func (.func 60) #[] #[]])) (str gA) (Value.agg #[ae 2,.func (.func 61) #[] #[]])) (str gJ) (Value.agg #[ae 2,.func (.func 61) #[] #[]])) (str gS) (Value.agg #[ae 2,.func (.func 61) #[] #[]])) (str hZ) (Value.agg #[ae 2,.func (.func 61) #[] #[]])) (str iy) (Value.agg #[ae 2,.func (.func 61) #[] #[]])) (str gz) (Value.agg #[ae 2,.func (.func 62) #[] #[]])) (str dE) (Value.agg #[ae 2,.func (.func 63) #[] #[]])) (str db) (Value.agg #[ae 2,.func (.func 64) #[] #[]])) (str dQ) (Value.agg #[ae 4,.func (.func 65) #[] #[]])) (str bQ) (Value.agg #[ae 4,.func (.func 65) #[] #[]])):=aC
 have hg13:=jm (k:=bQ) (v:=Value.agg #[ae 4,.func (.func 65) #[] #[]]) hg12
 have G:Wk w wm1_26:=hE12.trans' al (fun k hk h=>by omega)
 exact p mv (aj (((j _ _ (rt (f1 rfl rfl (⟨a,rfl,aT,⟨_,aK,fun s=>hg13 s⟩,G⟩)))))))
end Go.Hb.kf
end
section
set_option maxRecDepth 20000
set_option maxHeartbeats 1000000
namespace Go.Hb.iG
open Go.Hb.di
open Go.Proofs
open Go.Hb.eX Go.Hb.fH Go.Hb.iV Go.Hb.fP Go.Hb.ko Go.Hb.gF Go.Hb.lJ Go.Hb.g4 Go.Hb.kS Go.Hb.lH Go.Hb.gr Go.Hb.fS
theorem cD.r6 {w w1 i:World} {B fb mc:Nat} {F:aI} {V:dW} {v:Value} {x:Tx×Tx} (h:cD w B fb mc F V) (hm:Md (fun k=>V.v9.ownBlock=some k) w w1) (p:World.ownsRow w1 B 163 2 v (F.bN++ [x]).length (gW (F.bN++ [x]))) (a:Md (fun k=>k=fb) w1 i) (hc:i.heap[fb]? =some (.cells (kB {F with bN:=F.bN++ [x]} {V with v9:=v} mc).toArray 89 (0,0))):cD i B fb mc {F with bN:=F.bN++ [x]} {V with v9:=v} :=by
 have hT:TF w [165] (fun k=>V.v9.ownBlock=some k):=TF.own h.o9 (by decide)
 have hcl:=hm.gw hT h.cells (by decide)
 have hT2:TF w1 [91] (fun k=>k=fb):=TF.eq (cV hcl) (by decide)
 have hfl:∀ k,V.v9.ownBlock=some k→∀ cur z,w.heap[k]?≠some (.cells cur 71 z):=eT h.o9 (by decide)
 have j:∀ k,k=fb→∀ cur z,w1.heap[k]?≠some (.cells cur 71 z):=dM hcl (by decide)
 obtain ⟨f,hf,q⟩:=h.cm
 have hmt:=dt (hf.md hm (hT.no (dt hf) (by decide)))
 exact ⟨hc,bS p a (fun k hk hf=>cw p hcl (by decide) (hf ▸ hk)),bI (bI h.dI hm hT (by decide)) a hT2 (by decide),(h.al.md hm hfl).md a j,bI (bI h.dp hm hT (by decide)) a hT2 (by decide),bI (bI h.cQ hm hT (by decide)) a hT2 (by decide),(h.nx.md hm hfl).md a j,⟨f,(hf.md hm (hT.no (dt hf) (by decide))).md a (hT2.no hmt (by decide)),q⟩,h.lo,h.ef⟩
theorem cD.r4 {w w1 j:World} {B fb mc:Nat} {F:aI} {V:dW} {v:Value} {x:List Nat} {vx:Value} (h:cD w B fb mc F V) (s:Tg w B 71 x.length vx (x.map aO)) (hm:Md (fun k=>V.v10.ownBlock=some k) w w1) (p:World.ownsRow w1 B 54 1 v (F.aliases++ [x]).length ((V.sa++ [vx]))) (a:Md (fun k=>k=fb) w1 j) (hc:j.heap[fb]? =some (.cells (kB {F with aliases:=F.aliases++ [x]} {V with v10:=v,sa:=V.sa++ [vx]} mc).toArray 89 (0,0))):cD j B fb mc {F with aliases:=F.aliases++ [x]} {V with v10:=v,sa:=V.sa++ [vx]} :=by
 have hT:TF w [56] (fun k=>V.v10.ownBlock=some k):=TF.own h.dI (by decide)
 have hcl:=hm.gw hT h.cells (by decide)
 have hT2:TF w1 [91] (fun k=>k=fb):=TF.eq (cV hcl) (by decide)
 have hfl:∀ k,V.v10.ownBlock=some k→∀ cur z,w.heap[k]?≠some (.cells cur 71 z):=eT h.dI (by decide)
 have i:∀ k,k=fb→∀ cur z,w1.heap[k]?≠some (.cells cur 71 z):=dM hcl (by decide)
 obtain ⟨f,hf,q⟩:=h.cm
 have hmt:=dt (hf.md hm (hT.no (dt hf) (by decide)))
 exact ⟨hc,bI (bI h.o9 hm hT (by decide)) a hT2 (by decide),bS p a (fun k hk hf=>cw p hcl (by decide) (hf ▸ hk)),((h.al.md hm hfl).md a i).snoc ((s.md hm hfl).md a i),bI (bI h.dp hm hT (by decide)) a hT2 (by decide),bI (bI h.cQ hm hT (by decide)) a hT2 (by decide),(h.nx.md hm hfl).md a i,⟨f,(hf.md hm (hT.no (dt hf) (by decide))).md a (hT2.no hmt (by decide)),q⟩,h.lo,h.ef⟩
theorem cD.pK {w w1 j:World} {B fb mc:Nat} {F:aI} {V:dW} {v:Value} {x:eK} {vx:Value} (h:cD w B fb mc F V) (s:Tg w B 71 x.next.length vx (x.next.map aO)) (hm:Md (fun k=>V.cC.ownBlock=some k) w w1) (p:World.ownsRow w1 B 155 7 v (F.rules++ [x]).length (fZ ((F.rules++ [x]).zip (V.rn++ [vx])))) (a:Md (fun k=>k=fb) w1 j) (hc:j.heap[fb]? =some (.cells (kB {F with rules:=F.rules++ [x]} {V with cC:=v,rn:=V.rn++ [vx]} mc).toArray 89 (0,0))):cD j B fb mc {F with rules:=F.rules++ [x]} {V with cC:=v,rn:=V.rn++ [vx]} :=by
 have hT:TF w [157] (fun k=>V.cC.ownBlock=some k):=TF.own h.cQ (by decide)
 have hcl:=hm.gw hT h.cells (by decide)
 have hT2:TF w1 [91] (fun k=>k=fb):=TF.eq (cV hcl) (by decide)
 have hfl:∀ k,V.cC.ownBlock=some k→∀ cur z,w.heap[k]?≠some (.cells cur 71 z):=eT h.cQ (by decide)
 have i:∀ k,k=fb→∀ cur z,w1.heap[k]?≠some (.cells cur 71 z):=dM hcl (by decide)
 obtain ⟨f,hf,q⟩:=h.cm
 have hmt:=dt (hf.md hm (hT.no (dt hf) (by decide)))
 exact ⟨hc,bI (bI h.o9 hm hT (by decide)) a hT2 (by decide),bI (bI h.dI hm hT (by decide)) a hT2 (by decide),(h.al.md hm hfl).md a i,bI (bI h.dp hm hT (by decide)) a hT2 (by decide),bS p a (fun k hk hf=>cw p hcl (by decide) (hf ▸ hk)),(by rw [List.map_append]; exact ((h.nx.md hm hfl).md a i).snoc ((s.md hm hfl).md a i)),⟨f,(hf.md hm (hT.no (dt hf) (by decide))).md a (hT2.no hmt (by decide)),q⟩,h.lo,h.ef⟩
theorem bU.own {w w':World} {B:Nat} {H:bO} {F:aI} {R:eI} {rows:List Rw} {ln:Nat} {seen:List Tx} {a e s n:Nat} {v:Value} {xs:List Value} (h:bU w B H F R rows ln seen) (j:World.ownsRow w a e s v n xs) (hm:Md (fun k=>v.ownBlock=some k) w w') (i:([e+2].contains 94 || [e+2].contains 107 || [e+2].contains 11 || [e+2].contains 5)=false):bU w' B H F R rows ln seen:=by
 have hT:TF w [e+2] (fun k=>v.ownBlock=some k):=TF.own j (by simp)
 obtain ⟨f,hf,_⟩:=h.sm
 obtain ⟨g,hg,_⟩:=h.tm
 exact h.md hm hT i (hT.no (dt hf) (by simp)) (hT.no (dt hg) (by simp))
theorem bU.kA {w w':World} {B:Nat} {H:bO} {F:aI} {R:eI} {rows:List Rw} {ln:Nat} {seen:List Tx} {cs:Array Value} {z:Nat×Nat} (h:bU w B H F R rows ln seen) (hc:w.heap[H.fb]? =some (.cells cs 89 z)) (hm:Md (fun k=>k=H.fb) w w'):bU w' B H F R rows ln seen:=by
 have hT:TF w [91] (fun k=>k=H.fb):=TF.eq (cV hc) (by decide)
 obtain ⟨f,hf,a⟩:=h.sm
 obtain ⟨g,hg,hg2⟩:=h.tm
 exact h.md hm hT (by decide) (hT.no (dt hf) (by decide)) (hT.no (dt hg) (by decide))
theorem Tg.uw {w:World} {b e n:Nat} {L:List Value} {z:Nat×Nat} (h:w.heap[b]? =some (.cells L.toArray e z)) (hn:n=L.length):Tg w b e n (.slice (some ⟨b,0,none⟩) n n) L:=⟨_,_,rfl,Nat.le_refl _,.inr ⟨b,_,_,rfl,Nat.le_refl _,h,fun j u hu=>by simpa using hu⟩⟩
theorem ik.k4 {F:aI} {q:Rw} {rest:List Rw} {seen:List Tx} (h:ik F (q::rest) seen):ik F rest seen:=⟨by have :=h.len; simp only [List.length_cons] at this; omega,by have :=h.sl; simp only [List.length_cons] at this; omega,fun q2 h2=>h.row q2 (List.mem_cons_of_mem _ h2),h.kd,h.al⟩
theorem A0 {eof ln e:Nat} {F:aI} {rows:List Rw} {r:List Tx} (h:dy (r.getD 1 []) 256= .error e):gM eof F rows ln r= .error (ln,e):=by unfold gM; rw [h]
theorem oW {eof ln n:Nat} {F:aI} {rows:List Rw} {r:List Tx} {e:Nat×Nat} (h:dy (r.getD 1 []) 256= .ok n) (h1:group [dE] gL eof n rows= .error e):gM eof F rows ln r= .error e:=by unfold gM; rw [h]; simp only; rw [h1]
theorem Kr {eof ln n:Nat} {F:aI} {rows:List Rw} {r:List Tx} {q:List (Tx×Tx)×List Rw} (h:dy (r.getD 1 []) 256= .ok n) (h1:group [dE] gL eof n rows= .ok q):gM eof F rows ln r= .ok ({F with bN:=F.bN++q.1},q.2):=by unfold gM; rw [h]; simp only; rw [h1]
theorem ur {s:Tx} {most:Int} {n:Nat} (h:dy s most= .ok n):(n:Int)≤most:=by
 unfold dy at h
 split at h
 · cases h
 · rename_i h0; cases h; exact l7 s most (Classical.not_not.1 h0)
theorem rZ {eof ln:Nat} {F:aI} {hs:List Tx} {rows:List Rw} {r:List Tx} (h:dQ∈hs∨bQ∈hs):gu eof F hs rows ln r= .error (ln,113):=if_pos h
theorem wi {eof ln e:Nat} {F:aI} {hs:List Tx} {rows:List Rw} {r:List Tx} (h0:¬(dQ∈hs∨bQ∈hs)) (h:dy (r.getD 1 []) 1024= .error e):gu eof F hs rows ln r= .error (ln,e):=by unfold gu; rw [if_neg h0,h]
theorem pI {eof ln n:Nat} {F:aI} {hs:List Tx} {rows:List Rw} {r:List Tx} {e:Nat×Nat} (h0:¬(dQ∈hs∨bQ∈hs)) (h:dy (r.getD 1 []) 1024= .ok n) (h1:group [db] (gR F.kind) eof n rows= .error e):gu eof F hs rows ln r= .error e:=by unfold gu; rw [if_neg h0,h]; simp only; rw [h1]
theorem CL {eof ln n:Nat} {F:aI} {hs:List Tx} {rows:List Rw} {r:List Tx} {q:List (List Nat)×List Rw} (h0:¬(dQ∈hs∨bQ∈hs)) (h:dy (r.getD 1 []) 1024= .ok n) (h1:group [db] (gR F.kind) eof n rows= .ok q):gu eof F hs rows ln r= .ok ({F with aliases:=F.aliases++q.1},q.2):=by unfold gu; rw [if_neg h0,h]; simp only; rw [h1]
theorem wh {kind ln:Nat} {r:List Tx} (h:r.length≠2):gR kind ln r= .error 111:=if_pos h
theorem pH {kind ln:Nat} {r:List Tx} (h:r.length=2):gR kind ln r=iP kind (r.getD 1 []):=if_neg (by omega)
theorem zh {kind:Nat} {s:Tx} (h:(cX kind s).2=0):(cX kind s).1.length≤64∧(cX kind s).1.Pairwise (· < ·):=by
 unfold cX at h ⊢
 split
 · simp
 · split
   · simp
   · split
     · simp
     · rename_i h3
       exact ⟨by have :=JD ((cg kind s).map (dm kind)); rw [List.length_map] at this; exact Nat.le_trans this (by omega),Ax _⟩
theorem AW {ln:Nat} {r:List Tx} (h:r.length≠3):gL ln r= .error 111:=if_pos h
theorem AX {ln e:Nat} {r:List Tx} (h:r.length=3) (h1:dq false (r.getD 1 [])= .error e):gL ln r= .error e:=by unfold gL; rw [if_neg (by omega),h1]
theorem AY {ln e:Nat} {r:List Tx} {a:Tx} (h:r.length=3) (h1:dq false (r.getD 1 [])= .ok a) (h2:dq true (r.getD 2 [])= .error e):gL ln r= .error e:=by unfold gL; rw [if_neg (by omega),h1]; simp only; rw [h2]
theorem AZ {ln:Nat} {r:List Tx} {a b:Tx} (h:r.length=3) (h1:dq false (r.getD 1 [])= .ok a) (h2:dq true (r.getD 2 [])= .ok b):gL ln r= .ok (a,b):=by unfold gL; rw [if_neg (by omega),h1]; simp only; rw [h2]
theorem Kt (B:Nat) (H:bO) (F:aI) (rows:List Rw) (ln:Nat) (seen:List Tx) (r:List Tx) (ay:Nat) (ac:Option Addr) (ae:Nat) (w:World) (A:St w B H F rows ln seen) (hT:Tg w ay 9 r.length (.slice ac r.length ae) (r.map str)) (hr:r.length=2) (hrl:∀ x∈r,x.length≤70000):
 dO Tryz.prog 63 (List.toArray [.pointer (some ⟨H.rb,0,none⟩),.slice ac r.length ae]) w (fR B H seen (gM H.eof F rows ln r) w) (fQ B H (gM H.eof F rows ln r) w):=by
 obtain ⟨V,R,hF,ah,hB⟩:=A
 have hTs:=hT.bH
 have hr1:(r.getD 1 []).length≤70000:=hrl _ (c6 (by omega))
 have hlo:=ah.lo
 have hbl:=hB.len
 refine gy Tryz.func63 rfl Tryz.ntmps63 rfl ?_
 refine sq (fun a3 aK=>rg rfl (p (aC (.pointer (some ⟨H.rb,0,none⟩)) rfl) (p (aC (.slice ac r.length ae) rfl) (p (aJ bE rfl rfl (by omega) (aw.ok (hTs.2) (bp (by omega)))) (p (ld bz rfl (bu.get (i:=1) hTs.2 (by omega))) (eP rfl (cz kX (q5 H.rb ln (r.getD 1 []) 256 w ah.bM (by omega) (by omega)) rfl fun v10 w10 hR10=> ?_) (fun c w' s aa hF=>by obtain ⟨e,he,h,h2⟩:=s; exact ⟨ln,e,A0 he,h,Wk.mw h2⟩)))))))
 obtain ⟨n,hnx,rfl,ag⟩:=hR10
 have hnl:=ur hnx
 refine p mv (nl (tn (aK _ _ (aA (lp (fun ao ab wI=> ∃ (i:Nat) (xs:List (Tx×Tx)) (rows':List Rw) (Z:Nat) (j:dW) (R':eI),(i≤n)∧(fz [dE] gL H.eof (group [dE] gL H.eof n rows) xs (n - i) rows')∧(xs.length=i)∧(cD wI B H.fb H.mc {F with bN:=F.bN++xs} j)∧(bU wI B H F R' rows' Z seen)∧(ik {F with bN:=F.bN++xs} rows' seen)∧(dN B H w wI)∧(ab 0= .pointer (some ⟨H.rb,0,none⟩))∧(ab 10= .int .i64 (n:Nat))∧(ab 11= .int .i64 (i:Nat))∧(n - i=ao)) _ ⟨0,[],rows,ln,V,R,(by omega),fz.start,rfl,((by rw [List.append_nil]; exact hF.wk ag)),(ah.wk ag),((by rw [List.append_nil]; exact hB)),(Wk.mw ag),rfl,rfl,rfl,rfl⟩ ?_)))))
 rintro ao ab wI ⟨i,xs,rows',Z,j,R',hi,C,hxl,aq,O,M,hMw,aZ,a0,a1,rfl⟩
 refine fx 0 aZ (fx 10 a0 (fx 11 a1 (sq (fun a4 aL=>rg rfl (p (lt rfl rfl) (nl (tn (aL _ _ (sq (fun a5 aM=>cd rfl (fun aW=> ?_) (fun aW=> ?_)))))))))))
 refine az (tn (aM _ _ (sq (fun a6 aN=>aA (sq (fun a7 aO=>rg rfl (p (aC (.pointer (some ⟨H.rb,0,none⟩)) rfl) (e (nb (L:= [str dE]) dV rfl rfl rfl rfl fun aD w14 hb14 aS aF=> ?_)))))))))
 have hE14:Wk wI w14:=aS.md
 have hMw14:=hMw.trans (Wk.mw hE14)
 refine eP rfl (cz sH (tV B H F R' rows' Z seen [dE] aD 1 _ _ w14 (O.wk hE14) (Tg.uw aF rfl) rfl (by decide) (fun q hq=>(M.row q hq).2.1)) rfl fun bi w15 hR15=> ?_) (fun c w' s aa hF=>by
  obtain ⟨h1,h2⟩:=s
  have hm:=hMw14.trans (dN.rb (O.wk hE14) h2)
  rcases h1 with ⟨rfl,h3⟩ | ⟨J,I,rest,rfl,h4,h3⟩
  exact ⟨_,_,oW hnx (C.ends (by omega)),h3,hm⟩
  exact ⟨_,_,oW hnx (C.other (by omega) h4),h3,hm⟩)
 obtain ⟨J,I,rest,rfl,Y,⟨aB,hR2⟩,hT15,hM15⟩:=hR15
 obtain ⟨bb,ng,rfl⟩:=hT15.slice
 have hF2:=(aq.wk hE14).rb (O.wk hE14) hM15
 have hMw2:=hMw14.trans (dN.rb (O.wk hE14) hM15)
 have hrow:I≠[]∧I.length≤70000∧∀ x∈I,x.length≤70000:=M.row (J,I) (by simp)
 have hB2:=ik.k4 M
 have hT15s:=hT15.bH
 have hbl2:=M.len
 simp only [List.length_cons,List.length_append] at hbl2
 refine p ak (nl (tn (aO _ _ (sq (fun a8 aP=>rg rfl (p (aC (.pointer (some ⟨H.rb,0,none⟩)) rfl) (p mv (p (ba dx rfl rfl) ?_))))))))
 refine p (bf rfl rfl) (eP rfl (cz eZ (e9 H.rb J _ 111 w15 hR2.bM (by decide)) rfl fun v20 w20 aT=> ?_) (fun c w' s aa hF=>⟨_,_,oW hnx (C.bad (by omega) Y (AW (by have :=of_decide_eq_false s.2.1; omega))),s.1,by rw [s.2.2]; exact hMw2⟩))
 obtain ⟨rfl,a2,rfl⟩:=aT
 have am:I.length=3:=by have :=of_decide_eq_true a2; omega
 have hl1:=hrow.2.2 _ (c6 (d:= []) (i:=1) (by omega))
 have hl2:=hrow.2.2 _ (c6 (d:= []) (i:=2) (by omega))
 refine nl (tn (aP _ _ (sq (fun a9 aR=>rg rfl (p (aC (.pointer (some ⟨H.rb,0,none⟩)) rfl) (p mv (p (aJ bE rfl rfl (by omega) (aw.ok (hT15s.2) (bp (by omega)))) (p (ld bz rfl (bu.get (i:=1) hT15s.2 (by omega))) ?_))))))))
 refine eP rfl (cz xO (AL H.rb J (I.getD 1 []) w20 hR2.bM (by omega)) rfl fun bj w25 aU=> ?_) (fun c w' s aa hF=>by obtain ⟨e,he,h,h2⟩:=s; exact ⟨_,_,oW hnx (C.bad (by omega) Y (AX am he)),h,hMw2.trans (Wk.mw h2)⟩)
 obtain ⟨E,ax,rfl,hE25⟩:=aU
 have hF3:=hF2.wk hE25
 have hR3:=hR2.wk hE25
 have hT3:=hT15.wk hE25
 have hMw3:=hMw2.trans (Wk.mw hE25)
 have aj:¬(j.v9.ownBlock=some H.rb):=cw hF3.o9 hR3.cells (by decide)
 have aX:¬(j.v9.ownBlock=some H.fb):=cw hF3.o9 hF3.cells (by decide)
 refine p ak (nl (tn (aR _ _ ?_)))
 have a:(fun w'=>Md (fun k=>j.v9.ownBlock=some k) w25 w') w25.drew:=(Md.refl _ _).drew
 refine dH (fun w'=>Md (fun k=>j.v9.ownBlock=some k) w25 w') 24 rfl wide a (bV 0 rfl (by kernel_rfl) (fun _=>aC (.pointer (some ⟨H.rb,0,none⟩)) rfl) (fun _=>a) (bV 1 rfl (by kernel_rfl) (fun _=>nc rfl) (fun _=>a) (bV 2 rfl (by kernel_rfl) (fun _=>fa eR rfl) (fun _=>a) (gK 3 rfl (by kernel_rfl) (fun w' A=>ld ew rfl (Md.aE A ((aQ hR3.cells).trans rfl) aj)) a (bV 4 rfl (by kernel_rfl) (fun _=>aC (.pointer (some ⟨H.rb,0,none⟩)) rfl) (fun _=>a) (bV 5 rfl (by kernel_rfl) (fun _=>nc rfl) (fun _=>a) (bV 6 rfl (by kernel_rfl) (fun _=>fa eR rfl) (fun _=>a) ?_)))))))
 refine gK 7 rfl (by kernel_rfl) (fun w' A=>ld ew rfl (Md.aE A ((aQ hR3.cells).trans rfl) aj)) a (bV 8 rfl (by kernel_rfl) (fun _=>nc rfl) (fun _=>a) (bV 9 rfl (by kernel_rfl) (fun _=>fa eA rfl) (fun _=>a) (bV 10 rfl (by kernel_rfl) (fun _=>fa qA rfl) (fun _=>a) (gK 11 rfl (by kernel_rfl) (fun w' A=>ld wc rfl (Md.aE A ((aQ hF3.cells).trans rfl) aX)) a (bV 12 rfl (by kernel_rfl) (fun _=>mv) (fun _=>a) (bV 13 rfl (by kernel_rfl) (fun _=>aC (.pointer (some ⟨H.rb,0,none⟩)) rfl) (fun _=>a) (bV 14 rfl (by kernel_rfl) (fun _=>mv) (fun _=>a) ?_)))))))
 refine bV 15 rfl (by kernel_rfl) (fun _=>aJ bE rfl rfl (by omega) (aw.ok (hT3.bH.2) (bp (by omega)))) (fun _=>a) (gK 16 rfl (by kernel_rfl) (fun w' A=>ld bz rfl (bu.get (i:=2) (hT3.md A (eT hF3.o9 (by decide))).bH.2 (by omega))) a (z8 17 rfl (by kernel_rfl) rfl (cz xa (AI H.rb J (I.getD 2 []) w25.drew (Md.aE a hR3.bM aj) (by omega)) rfl fun bk w43 aV=> ?_) (fun c w' s aa hF=>by obtain ⟨e,he,h,h2⟩:=s; exact ⟨_,_,oW hnx (C.bad (by omega) Y (AY am ax he)),h,hMw3.trans (Wk.mw (ff h2))⟩)))
 obtain ⟨G,aY,rfl,hE43⟩:=aV
 have hE43:=ff hE43
 have ai:(fun w'=>Md (fun k=>j.v9.ownBlock=some k) w25 w') w43:=Md.mono hE43 (fun _ _ h=>h.elim)
 refine ⟨ai,?_⟩
 refine bV 18 rfl (by kernel_rfl) (fun _=>bZ (ps:= [(0,str E),(1,str G)]) (L:= [str E,str G]) Lv rfl (rfl)) (fun _=>ai) (fE 19 rfl (by kernel_rfl) (im rp rfl rfl rfl fun bc w45 bd ar aG=> ?_))
 have hE45:=hE43.trans ar.md
 have hF4:=hF3.wk hE45
 have hR4:=hR3.wk hE45
 have au:(fun w'=>Md (fun k=>j.v9.ownBlock=some k) w25 w') w45:=ai.trans' ar.md (fun _ _ h=>h.elim)
 refine ⟨au,?_⟩
 refine fE 20 rfl (by kernel_rfl) (ap rp (hF4.o9) rfl (by have :=(Array.getElem?_eq_some_iff.1 hR4.cells).1; omega) rfl (aw.cU aG) (rfl) (rfl) (by simp only [List.length_append]; omega) (by simp only [List.length_append]; omega) fun an w46 av hM46 bh bg=> ?_)
 have hMw5:=(hMw3.trans (Wk.mw hE45)).trans (Mw.of hM46 (TF.own hF4.o9 (by decide)) (fun k hk=>(cG hF4.o9 hk).1))
 have hR5:=bU.own hR4 hF4.o9 hM46 (by decide)
 have hc5:=hM46.aA hF4.cells (cw hF4.o9 hF4.cells (by decide))
 have ho46x:World.ownsRow w46 B 163 2 an ((F.bN++xs)++ [(E,G)]).length (gW ((F.bN++xs)++ [(E,G)])):=by rw [show gW ((F.bN++xs)++ [(E,G)])=gW (F.bN++xs)++ [str E,str G] from by simp [gW],List.length_append]; exact av
 have U:(fun w'=>Md (fun k=>j.v9.ownBlock=some k) w25 w') w46:=au.trans' hM46 (fun _ _ h=>h)
 refine ⟨U,?_⟩
 refine bV 21 rfl (by kernel_rfl) (fun _=>nc rfl) (fun _=>U) (bV 22 rfl (by kernel_rfl) (fun _=>fa eA rfl) (fun _=>U) (bV 23 rfl (by kernel_rfl) (fun _=>fa qA rfl) (fun _=>U) (cE 24 rfl (by kernel_rfl) (by kernel_rfl) (cj yc rfl rfl (v:=an) (dU av) hc5 (by show _ < 14; omega) fun w9 hM9 aH=> ?_))))
 refine dG (by kernel_rfl) ?_
 exact bn (tn (aN _ _ (rg rfl (p (ad rfl rfl (bm (by omega))) (p mv (nl (tn (⟨_,by omega,i+1,xs++ [(E,G)],rest,J,{j with v9:=an},aB,(by omega),((by rw [show n - (i+1)=n - i - 1 by omega]; exact C.step (by omega) Y (AZ am ax aY))),((by rw [List.length_append,hxl]; rfl)),((by rw [← List.append_assoc]; exact cD.r6 (x:=(E,G)) hF4 hM46 ho46x hM9 aH)),(bU.kA hR5 hc5 hM9),(⟨by simp only [List.length_append,List.length_singleton]; omega,hB2.sl,hB2.row,hB2.kd,hB2.al⟩),(hMw5.trans (Mw.of hM9 (TF.eq (cV hc5) (by decide)) (fun k hk=>hk ▸ hF4.lo.1))),rfl,rfl,rfl,rfl⟩))))))))
 refine ext (te _ (te _ (be (gh ?_))))
 refine f0 rfl ?_
 rw [show n - i=0 by omega] at C
 exact ⟨rfl,_,rows',Z,Kr hnx C.done,⟨j,R',aq,O.congr rfl (fun _=>rfl),M⟩,hMw⟩
theorem CK (B:Nat) (H:bO) (F:aI) (rows:List Rw) (ln:Nat) (seen:List Tx) (r:List Tx) (aL:Nat) (aj:Option Addr) (am:Nat) (w:World) (j:St w B H F rows ln seen) (hT:Tg w aL 9 r.length (.slice aj r.length am) (r.map str)) (hr:r.length=2) (hrl:∀ x∈r,x.length≤70000):
 dO Tryz.prog 64 (List.toArray [.pointer (some ⟨H.rb,0,none⟩),.slice aj r.length am]) w (fR B H seen (gu H.eof F seen rows ln r) w) (fQ B H (gu H.eof F seen rows ln r) w):=by
 obtain ⟨V,R,hF,I,hB⟩:=j
 have hTs:=hT.bH
 have hr1:(r.getD 1 []).length≤70000:=hrl _ (c6 (by omega))
 have hlo:=I.lo
 have hbl:=hB.len
 obtain ⟨bK,aF,aH⟩:=I.sm
 have hcp:=List.count_le_length (a:=dQ) (l:=seen)
 have hcs:=List.count_le_length (a:=bQ) (l:=seen)
 have hsl:=hB.sl
 refine gy Tryz.func64 rfl Tryz.ntmps64 rfl ?_
 refine sq (fun bq aU=> ?_)
 have hS0:(fun w'=>Wk w w') w.drew:=(Md.refl _ _).drew
 refine bD (fun w'=>Wk w w') rfl wide hS0 (hp 0 rfl (by kernel_rfl) (fun _ _=>aC (.pointer (some ⟨H.rb,0,none⟩)) rfl) hS0 (hp 1 rfl (by kernel_rfl) (fun _ _=>aC (.pointer (some ⟨H.rb,0,none⟩)) rfl) hS0 (hp 2 rfl (by kernel_rfl) (fun _ _=>nc rfl) hS0 (hp 3 rfl (by kernel_rfl) (fun _ _=>fa nz rfl) hS0 (hp 4 rfl (by kernel_rfl) (fun w' j=>ld na rfl (Wk.aE j ((aQ I.cells).trans rfl))) hS0 (hp 5 rfl (by kernel_rfl) (fun w' j=>j7 mh kP fw (bP.md (aF) j id) rfl rfl (⟨_,rfl⟩) (aH dQ)) hS0 (hp 6 rfl (by kernel_rfl) (fun _ _=>aC (.pointer (some ⟨H.rb,0,none⟩)) rfl) hS0 ?_)))))))
 refine hp 7 rfl (by kernel_rfl) (fun _ _=>nc rfl) hS0 (hp 8 rfl (by kernel_rfl) (fun _ _=>fa nz rfl) hS0 (hp 9 rfl (by kernel_rfl) (fun w' j=>ld na rfl (Wk.aE j ((aQ I.cells).trans rfl))) hS0 (hp 10 rfl (by kernel_rfl) (fun w' j=>j7 mh kP fw (bP.md (aF) j id) rfl rfl (⟨_,rfl⟩) (aH bQ)) hS0 (hp 11 rfl (by kernel_rfl) (fun _ _=>bc ((seen.count dQ+seen.count bQ:Nat):Int) rfl rfl (aR (by omega) (by omega))) hS0 (hp 12 rfl (by kernel_rfl) (fun _ _=>bf rfl rfl) hS0 ?_)))))
 refine nA 13 rfl (by kernel_rfl) rfl (cz eZ (e9 H.rb ln _ 113 w.drew (Wk.aE hS0 I.bM) (by decide)) rfl fun v20 w20 a5=> ?_) (fun c w' s ah hF=>⟨ln,113,rZ (Classical.byContradiction fun h2=>by
  have h1:=List.count_eq_zero.2 (fun h=>h2 (Or.inl h))
  have h3:=List.count_eq_zero.2 (fun h=>h2 (Or.inr h))
  exact of_decide_eq_false s.2.1 (by omega)),s.1,by rw [s.2.2]; exact Wk.mw hS0⟩)
 obtain ⟨rfl,bl,aK⟩:=a5
 have ac:Wk w w20:=by rw [aK]; exact (Md.refl _ _).drew
 have U:¬(dQ∈seen∨bQ∈seen):=by
  have h0:=of_decide_eq_true bl
  rintro (h | h)
  have :=List.count_pos_iff.2 h; omega
  have :=List.count_pos_iff.2 h; omega
 have hR0:=I.wk ac
 have hT0s:=(hT.wk ac).bH
 have bb:(fun w'=>Wk w w') w20:=by rw [aK]; exact hS0
 refine ⟨bb,?_⟩
 refine hn (by kernel_rfl) (tn (aU _ _ (sq (fun br aV=>rg rfl (p (aC (.pointer (some ⟨H.rb,0,none⟩)) rfl) (p (aC (.slice aj r.length am) rfl) (p (aJ bE rfl rfl (by omega) (aw.ok (hT0s.2) (bp (by omega)))) (p (ld bz rfl (bu.get (i:=1) hT0s.2 (by omega))) ?_))))))))
 refine eP rfl (cz kX (q5 H.rb ln (r.getD 1 []) 1024 w20 hR0.bM (by omega) (by omega)) rfl fun bN w25 a6=> ?_) (fun c w' s ah hF=>by obtain ⟨e,he,h,h2⟩:=s; exact ⟨ln,e,wi U he,h,Wk.mw (ac.trans h2)⟩)
 obtain ⟨n,hnx,rfl,hE25⟩:=a6
 have hnl:=ur hnx
 have hE25:=ac.trans hE25
 refine p mv (nl (tn (aV _ _ (aA (lp (fun au ai wI=> ∃ (i:Nat) (xs:List (List Nat)) (rows':List Rw) (ag:Nat) (C:dW) (R':eI),(i≤n)∧(fz [db] (gR F.kind) H.eof (group [db] (gR F.kind) H.eof n rows) xs (n - i) rows')∧(xs.length=i)∧(cD wI B H.fb H.mc {F with aliases:=F.aliases++xs} C)∧(bU wI B H F R' rows' ag seen)∧(ik {F with aliases:=F.aliases++xs} rows' seen)∧(dN B H w wI)∧(ai 0= .pointer (some ⟨H.rb,0,none⟩))∧(ai 25= .int .i64 (n:Nat))∧(ai 26= .int .i64 (i:Nat))∧(n - i=au)) _ ⟨0,[],rows,ln,V,R,(by omega),fz.start,rfl,((by rw [List.append_nil]; exact hF.wk hE25)),(I.wk hE25),((by rw [List.append_nil]; exact hB)),(Wk.mw hE25),rfl,rfl,rfl,rfl⟩ ?_)))))
 rintro au ai wI ⟨i,xs,rows',ag,C,R',hi,J,hxl,av,Z,M,hMw,bi,bj,bk,rfl⟩
 refine fx 0 bi (fx 25 bj (fx 26 bk (sq (fun bs aW=>rg rfl (p (lt rfl rfl) (nl (tn (aW _ _ (sq (fun bt aX=>cd rfl (fun bd=> ?_) (fun bd=> ?_)))))))))))
 refine az (tn (aX _ _ (sq (fun bv aY=>aA (sq (fun bw aZ=>rg rfl (p (aC (.pointer (some ⟨H.rb,0,none⟩)) rfl) (e (nb (L:= [str db]) dV rfl rfl rfl rfl fun aN w14 hb14 a3 aO=> ?_)))))))))
 have hE14:Wk wI w14:=a3.md
 have hMw14:=hMw.trans (Wk.mw hE14)
 refine eP rfl (cz sH (tV B H F R' rows' ag seen [db] aN 1 _ _ w14 (Z.wk hE14) (Tg.uw aO rfl) rfl (by decide) (fun q hq=>(M.row q hq).2.1)) rfl fun bL w15 hR15=> ?_) (fun c w' s ah hF=>by
  obtain ⟨h1,h2⟩:=s
  have hm:=hMw14.trans (dN.rb (Z.wk hE14) h2)
  rcases h1 with ⟨rfl,h3⟩ | ⟨aa,G,rest,rfl,h4,h3⟩
  exact ⟨_,_,pI U hnx (J.ends (by omega)),h3,hm⟩
  exact ⟨_,_,pI U hnx (J.other (by omega) h4),h3,hm⟩)
 obtain ⟨aa,G,rest,rfl,ao,⟨aM,hR2⟩,hT15,hM15⟩:=hR15
 obtain ⟨bC,ng,rfl⟩:=hT15.slice
 have hF2:=(av.wk hE14).rb (Z.wk hE14) hM15
 have hMw2:=hMw14.trans (dN.rb (Z.wk hE14) hM15)
 have hrow:G≠[]∧G.length≤70000∧∀ x∈G,x.length≤70000:=M.row (aa,G) (by simp)
 have hB2:=ik.k4 M
 have hT15s:=hT15.bH
 have hbl2:=M.len
 simp only [List.length_cons,List.length_append] at hbl2
 refine p ak (nl (tn (aZ _ _ (sq (fun bx a0=>rg rfl (p (aC (.pointer (some ⟨H.rb,0,none⟩)) rfl) (p mv (p (ba dx rfl rfl) ?_))))))))
 refine p (bf rfl rfl) (eP rfl (cz eZ (e9 H.rb aa _ 111 w15 hR2.bM (by decide)) rfl fun bR w35 a7=> ?_) (fun c w' s ah hF=>⟨_,_,pI U hnx (J.bad (by omega) ao (wh (by have :=of_decide_eq_false s.2.1; omega))),s.1,by rw [s.2.2]; exact hMw2⟩))
 obtain ⟨rfl,bo,rfl⟩:=a7
 have aD:G.length=2:=by have :=of_decide_eq_true bo; omega
 have hl1:=hrow.2.2 _ (c6 (d:= []) (i:=1) (by omega))
 refine nl (tn (a0 _ _ (sq (fun bA a1=> ?_))))
 have E:(fun w'=>Wk w35 w') w35.drew:=(Md.refl _ _).drew
 refine bD (fun w'=>Wk w35 w') rfl wide E (hp 0 rfl (by kernel_rfl) (fun _ _=>aC (.pointer (some ⟨H.rb,0,none⟩)) rfl) E (hp 1 rfl (by kernel_rfl) (fun _ _=>nc rfl) E (hp 2 rfl (by kernel_rfl) (fun _ _=>fa eR rfl) E (hp 3 rfl (by kernel_rfl) (fun w' j=>ld ew rfl (Wk.aE j ((aQ hR2.cells).trans rfl))) E (hp 4 rfl (by kernel_rfl) (fun _ _=>nc rfl) E (hp 5 rfl (by kernel_rfl) (fun _ _=>fa eA rfl) E (hp 6 rfl (by kernel_rfl) (fun _ _=>fa nw rfl) E ?_)))))))
 refine hp 7 rfl (by kernel_rfl) (fun w' j=>ld bT rfl (Wk.aE j ((aQ hF2.cells).trans rfl))) E (hp 8 rfl (by kernel_rfl) (fun _ _=>mv) E (hp 9 rfl (by kernel_rfl) (fun _ _=>aJ bE rfl rfl (by omega) (aw.ok (hT15s.2) (bp (by omega)))) E (hp 10 rfl (by kernel_rfl) (fun w' j=>ld bz rfl (Wk.aE j (bu.get (i:=1) hT15s.2 (by omega)))) E (he 11 rfl (by kernel_rfl) (cl xc (zl F.kind (G.getD 1 []) _ hB.kd (by omega)) rfl fun bS w48 a8=> ?_)))))
 obtain ⟨⟨ab,rfl,an⟩,hE48⟩:=a8
 have hE48:=ff hE48
 have hF3:=hF2.wk hE48
 have hR3:=hR2.wk hE48
 have hMw3:=hMw2.trans (Wk.mw hE48)
 have ay:¬(C.v10.ownBlock=some H.rb):=cw hF3.dI hR3.cells (by decide)
 have bg:¬(C.v10.ownBlock=some H.fb):=cw hF3.dI hF3.cells (by decide)
 have aT:B≤w35.heap.size:=by have :=(Array.getElem?_eq_some_iff.1 hR2.cells).1; omega
 have O:(fun w'=>Wk w35 w') w48:=hE48
 refine ⟨O,?_⟩
 refine hp 12 rfl (by kernel_rfl) (fun _ _=>mv) O (hp 13 rfl (by kernel_rfl) (fun _ _=>xt rfl rfl) O (hp 14 rfl (by kernel_rfl) (fun _ _=>xt rfl rfl) O (hp 15 rfl (by kernel_rfl) (fun _ _=>ak) O (hp 16 rfl (by kernel_rfl) (fun _ _=>ak) O (hn (by kernel_rfl) (tn (a1 _ _ (sq (fun bB a2=> ?_)))))))))
 refine rg rfl (p (aC (.pointer (some ⟨H.rb,0,none⟩)) rfl) (p mv (eP rfl (cz kt (kG H.rb aa ((cX F.kind (G.getD 1 [])).2:Nat) w48 hR3.bM) rfl fun bW w53 a9=> ?_) (fun c w' s ah hF=>⟨_,_,pI U hnx (J.bad (by omega) ao (by rw [pH aD]; exact qB (by have :=s.2.1; omega))),s.1,by rw [s.2.2]; exact hMw3⟩))))
 obtain ⟨rfl,aq,rfl⟩:=a9
 have aq:(cX F.kind (G.getD 1 [])).2=0:=by omega
 have hfo:=zh aq
 refine nl (tn (a2 _ _ ?_))
 have A:(fun w'=>Md (fun k=>C.v10.ownBlock=some k) w53 w') w53.drew:=(Md.refl _ _).drew
 refine dH (fun w'=>Md (fun k=>C.v10.ownBlock=some k) w53 w') 18 rfl wide A (bV 0 rfl (by kernel_rfl) (fun _=>aC (.pointer (some ⟨H.rb,0,none⟩)) rfl) (fun _=>A) (bV 1 rfl (by kernel_rfl) (fun _=>nc rfl) (fun _=>A) (bV 2 rfl (by kernel_rfl) (fun _=>fa eR rfl) (fun _=>A) (gK 3 rfl (by kernel_rfl) (fun w' j=>ld ew rfl (Md.aE j ((aQ hR3.cells).trans rfl) ay)) A (bV 4 rfl (by kernel_rfl) (fun _=>aC (.pointer (some ⟨H.rb,0,none⟩)) rfl) (fun _=>A) (bV 5 rfl (by kernel_rfl) (fun _=>nc rfl) (fun _=>A) (bV 6 rfl (by kernel_rfl) (fun _=>fa eR rfl) (fun _=>A) ?_)))))))
 refine gK 7 rfl (by kernel_rfl) (fun w' j=>ld ew rfl (Md.aE j ((aQ hR3.cells).trans rfl) ay)) A (bV 8 rfl (by kernel_rfl) (fun _=>nc rfl) (fun _=>A) (bV 9 rfl (by kernel_rfl) (fun _=>fa eA rfl) (fun _=>A) (bV 10 rfl (by kernel_rfl) (fun _=>fa k9 rfl) (fun _=>A) (gK 11 rfl (by kernel_rfl) (fun w' j=>ld mu rfl (Md.aE j ((aQ hF3.cells).trans rfl) bg)) A (bV 12 rfl (by kernel_rfl) (fun _=>mv) (fun _=>A) (fE 13 rfl (by kernel_rfl) (ec rq rfl (dU an) fun bF w67 bG a4 aP=> ?_)))))))
 have hE67:=ff a4.md
 have hF4:=hF3.wk hE67
 have hR4:=hR3.wk hE67
 have hTx:=(Tg.fY (aG an hE67)).mono aT
 have ax:(fun w'=>Md (fun k=>C.v10.ownBlock=some k) w53 w') w67:=Md.mono hE67 (fun _ _ h=>h.elim)
 refine ⟨ax,?_⟩
 refine fE 14 rfl (by kernel_rfl) (ap rq (hF4.dI) rfl (by have :=(Array.getElem?_eq_some_iff.1 hR4.cells).1; omega) rfl (aw.cU aP) (rfl) (by show List.all [ab] Value.oneCell'=true; simp only [List.all_cons,List.all_nil,dU an,Bool.and_self]) (by simp only [List.length_append]; omega) (by simp only [List.length_append]; omega) fun ar w68 aB Y bJ bI=> ?_)
 have hMw5:=(hMw3.trans (Wk.mw hE67)).trans (Mw.of Y (TF.own hF4.dI (by decide)) (fun k hk=>(cG hF4.dI hk).1))
 have hR5:=bU.own hR4 hF4.dI Y (by decide)
 have hc5:=Y.aA hF4.cells (cw hF4.dI hF4.cells (by decide))
 have bh:World.ownsRow w68 B 54 1 ar ((F.aliases++xs)++ [(cX F.kind (G.getD 1 [])).1]).length (C.sa++ [ab]):=by rw [List.length_append]; exact aB
 have ae:(fun w'=>Md (fun k=>C.v10.ownBlock=some k) w53 w') w68:=ax.trans' Y (fun _ _ h=>h)
 refine ⟨ae,?_⟩
 refine bV 15 rfl (by kernel_rfl) (fun _=>nc rfl) (fun _=>ae) (bV 16 rfl (by kernel_rfl) (fun _=>fa eA rfl) (fun _=>ae) (bV 17 rfl (by kernel_rfl) (fun _=>fa k9 rfl) (fun _=>ae) (cE 18 rfl (by kernel_rfl) (by kernel_rfl) (cj yd rfl rfl (v:=ar) (dU aB) hc5 (by show _ < 14; omega) fun w9 hM9 aS=> ?_))))
 refine dG (by kernel_rfl) ?_
 exact bn (tn (aY _ _ (rg rfl (p (ad rfl rfl (bm (by omega))) (p mv (nl (tn (⟨_,by omega,i+1,xs++ [(cX F.kind (G.getD 1 [])).1],rest,aa,{C with v10:=ar,sa:=C.sa++ [ab]},aM,(by omega),((by rw [show n - (i+1)=n - i - 1 by omega]; exact J.step (by omega) ao (by rw [pH aD]; exact qC aq))),((by rw [List.length_append,hxl]; rfl)),((by rw [← List.append_assoc]; exact cD.r4 (x:=(cX F.kind (G.getD 1 [])).1) (vx:=ab) hF4 hTx Y bh hM9 aS)),(bU.kA hR5 hc5 hM9),(⟨by simp only [List.length_append,List.length_singleton]; omega,hB2.sl,hB2.row,hB2.kd,(by intro l hl; rw [← List.append_assoc] at hl; rcases List.mem_append.1 hl with hl | hl; exact M.al l hl; rw [List.mem_singleton.1 hl]; exact hfo)⟩),(hMw5.trans (Mw.of hM9 (TF.eq (cV hc5) (by decide)) (fun k hk=>hk ▸ hF4.lo.1))),rfl,rfl,rfl,rfl⟩))))))))
 refine ext (te _ (te _ (be (gh ?_))))
 refine f0 rfl ?_
 rw [show n - i=0 by omega] at J
 exact ⟨rfl,_,rows',ag,CL U hnx J.done,⟨C,R',av,Z.congr rfl (fun _=>rfl),M⟩,hMw⟩
end Go.Hb.iG
end
section
set_option maxRecDepth 20000
set_option maxHeartbeats 1000000
namespace Go.Hb.gY
open Go.Proofs
open Go.Hb.eX Go.Hb.fH Go.Hb.iV Go.Hb.fP Go.Hb.iG
def Nx (F:aI):Prop :=(∀ l∈F.aliases,l.length≤64)∧∀ q∈F.rules,q.next.length≤64
theorem tO {α:Type} {hd:List Tx} {rd:Nat→List Tx→Except Nat α} {eof:Nat} :∀ (n:Nat) (rows:List Rw) (r:List α×List Rw),group hd rd eof n rows= .ok r→∀ x∈r.1,∃ ln row,rd ln row= .ok x:=by
 intro n
 induction n with
 | zero=>intro rows r h; simp only [group,Except.ok.injEq] at h; subst h; intro x a; cases a
 | succ n ih=>
   intro rows r h
   cases rows with
   | nil=>simp [group] at h
   | cons q rows=>
     obtain ⟨ln,row⟩:=q
     simp only [group] at h
     split at h
     · cases h
     · cases hr:rd ln row with
       | error e=>rw [hr] at h; cases h
       | ok y=>
         rw [hr] at h
         simp only at h
         cases hg:group hd rd eof n rows with
         | error e=>rw [hg] at h; cases h
         | ok i=>
           rw [hg] at h
           simp only [Except.ok.injEq] at h
           subst h
           intro x a
           rcases List.mem_cons.1 a with a | a
           · exact ⟨ln,row,by rw [a]; exact hr⟩
           · exact ih rows i hg x a
theorem zi {kind:Nat} {s:Tx} {l:List Nat} (h:iP kind s= .ok l):l.length≤64:=by
 unfold iP at h
 split at h
 · cases h
 · rename_i h0
   cases h
   exact (zh (Classical.not_not.1 h0)).1
theorem CI {kind ln:Nat} {row:List Tx} {l:List Nat} (h:gR kind ln row= .ok l):l.length≤64:=by
 unfold gR at h
 split at h
 · cases h
 · exact zi h
theorem qo {kind:Nat} {al:List (List Nat)} {s:Tx} {l:List Nat} (hal:∀ l∈al,l.length≤64) (h:ed kind al s= .ok l):l.length≤64:=by
 unfold ed at h
 split at h
 · exact zi h
 · split at h
   · cases h
   · split at h
     · cases h
     · cases h
       rename_i n _ _
       rw [List.getD_eq_getElem?_getD]
       cases hg:al[n - 1]? with
       | none=>simp
       | some x=>exact hal x (List.mem_of_getElem? hg)
theorem KN {kind ln:Nat} {al:List (List Nat)} {c:bX} {row:List Tx} {q:eK} (hal:∀ l∈al,l.length≤64) (h:eC kind al c ln row= .ok q):q.next.length≤64:=by
 unfold eC at h
 split at h
 · cases h
 · split at h
   · cases h
   · split at h
     · cases h
     · split at h
       · cases h
       · rename_i nx hnx
         split at h
         · cases h
         · cases h
           unfold ic at hnx
           split at hnx
           · split at hnx
             · cases hnx
             · exact qo hal hnx
           · cases hnx; simp
theorem qI {eof ln:Nat} {F F':aI} {hs:List Tx} {rows rows':List Rw} {row:List Tx} (h:Nx F) (a:bA eof F hs rows ln row= .ok (F',rows')):Nx F':=by
 unfold bA at a
 split at a
 · unfold gO at a
   split at a
   · cases a
   · cases a; exact h
 · split at a
   · unfold gT at a
     split at a
     · cases a
     · split at a
       · cases a
       · cases a; exact h
   · split at a
     · unfold jK at a
       split at a
       · cases a
       · cases a; exact h
     · split at a
       · unfold jO at a
         split at a
         · cases a
         · cases a; exact h
       · split at a
         · unfold ib at a
           split at a
           · cases a
           · split at a
             · cases a
             · cases a; exact h
         · split at a
           · unfold gM at a
             split at a
             · cases a
             · split at a
               · cases a
               · cases a; exact h
           · split at a
             · unfold gu at a
               split at a
               · cases a
               · split at a
                 · cases a
                 · split at a
                   · cases a
                   · rename_i r hg
                     cases a
                     refine ⟨fun l hl=> ?_,h.2⟩
                     rcases List.mem_append.1 hl with hl | hl
                     · exact h.1 l hl
                     · obtain ⟨_,_,h2⟩:=tO _ _ _ hg l hl
                       exact CI h2
             · unfold eN at a
               split at a
               · cases a
               · split at a
                 · cases a
                 · split at a
                   · cases a
                   · split at a
                     · cases a
                     · split at a
                       · cases a
                       · rename_i r hg
                         cases a
                         refine ⟨h.1,fun q hq=> ?_⟩
                         rcases List.mem_append.1 hq with hq | hq
                         · exact h.2 q hq
                         · obtain ⟨_,_,h2⟩:=tO _ _ _ hg q hq
                           exact KN h.1 h2
theorem H3 {eof ln:Nat} {F F':aI} {hs:List Tx} {rows rows':List Rw} {row:List Tx} (h0:row.getD 0 []∉cO) (a:bA eof F hs rows ln row= .ok (F',rows')):F'.sp=F.sp:=by
 unfold bA at a
 rw [if_neg h0] at a
 unfold gT jK jO ib gM gu eN at a
 repeat' split at a
 all_goals first
  | (cases a; done)
  | (cases a; rfl)
theorem zP {eof ln:Nat} {F F':aI} {seen:List Tx} {rows rows':List Rw} {row:List Tx} (h:gG F seen) (i:bA eof F seen rows ln row= .ok (F',rows')):gG F' (seen++ [row.getD 0 []]):=by
 intro k hk j
 rw [List.mem_append,List.mem_singleton] at j
 have p:k∉seen:=fun h=>j (.inl h)
 have q:k≠row.getD 0 []:=fun h=>j (.inr h)
 by_cases h0:row.getD 0 []∈cO
 · unfold bA at i
   rw [if_pos h0] at i
   unfold gO at i
   split at i
   · cases i
   · cases i
     show (F.sp.set (cO.idxOf (row.getD 0 [])) _).getD (cO.idxOf k) 0=0
     rw [List.getD_eq_getElem?_getD,List.getElem?_set,if_neg,← List.getD_eq_getElem?_getD]
     · exact h k hk p
     · intro he
       have hg:∀ a∈cO,cO.getD (cO.idxOf a) []=a:=by decide
       have h1:=hg _ h0
       have h2:=hg _ hk
       rw [he] at h1
       exact q (h2.symm.trans h1)
 · rw [H3 h0 i]; exact h k hk p
end Go.Hb.gY
end
section
set_option maxRecDepth 20000
set_option maxHeartbeats 1000000
namespace Go.Hb.jP
open Go.Hb.di
open Go.Proofs
open Go.Hb.eX Go.Hb.fH Go.Hb.iV Go.Hb.fP Go.Hb.iG Go.Hb.ko Go.Hb.gF Go.Hb.lJ Go.Hb.g4 Go.Hb.kS Go.Hb.lH Go.Hb.gr Go.Hb.fS
structure ki (w:World) (B fb:Nat) (mc:Nat) (F:aI) (V:dW):Prop where
 cells:w.heap[fb]? =some (.cells (kB F V mc).toArray 89 (0,0))
 o9:World.ownsRow w B 163 2 V.v9 F.bN.length (gW F.bN)
 dI:World.ownsRow w B 54 1 V.v10 F.aliases.length V.sa
 al:c4 w B 71 V.sa F.aliases
 dp:World.ownsRow w B 157 5 V.v11 F.a3.length (jv F.a3)
 cQ:World.ownsRow w B 155 7 V.cC F.rules.length (fZ (F.rules.zip V.rn))
 nx:c4 w B 71 V.rn (F.rules.map (·.next))
 lo:B≤fb∧B≤mc
 ef:F.sp.length=5
theorem ki.md {G:Nat→Prop} {w w':World} {B fb mc:Nat} {F:aI} {V:dW} (h:ki w B fb mc F V) (hm:Md G w w') {L:List Nat} (hT:TF w L G) (a:(L.contains 91 || L.contains 165 || L.contains 56 || L.contains 73 || L.contains 159 || L.contains 157)=false):ki w' B fb mc F V:=by
 simp only [Bool.or_eq_false_iff] at a
 obtain ⟨⟨⟨⟨⟨h1,h2⟩,h3⟩,h4⟩,h5⟩,h6⟩:=a
 have hfl:∀ k,G k→∀ cur z,w.heap[k]?≠some (.cells cur 71 z):=fun k hk cur z hg=>hT.no (cV hg) h4 hk
 exact ⟨hm.gw hT h.cells h1,bI h.o9 hm hT h2,bI h.dI hm hT h3,h.al.md hm hfl,bI h.dp hm hT h5,bI h.cQ hm hT h6,h.nx.md hm hfl,h.lo,h.ef⟩
theorem ki.wk {w w':World} {B fb mc:Nat} {F:aI} {V:dW} (h:ki w B fb mc F V) (hm:Wk w w'):ki w' B fb mc F V:=h.md (L:= []) hm (fun _ hk=>hk.elim) rfl
theorem GD {w:World} {B fb mc:Nat} {F:aI} {V:dW} (h:cD w B fb mc F V):ki w B fb mc F V:=⟨h.cells,h.o9,h.dI,h.al,h.dp,h.cQ,h.nx,h.lo,h.ef⟩
theorem ki.r5 {w w1 j:World} {B fb mc:Nat} {F:aI} {V:dW} {v:Value} {x:bX} {f:Value→Option Value} (h:ki w B fb mc F V) (hf:bP w.heap mc (lg .u16) f) (s:∀ y:Nat,f (aO y)=((F.a3++ [x]).findIdx? fun c=>decide (c.flag=y)).map fun i:Nat=>Value.int .i64 i) (hm:Md (fun k=>V.v11.ownBlock=some k) w w1) (q:World.ownsRow w1 B 157 5 v (F.a3++ [x]).length (jv (F.a3++ [x]))) (a:Md (fun k=>k=fb) w1 j) (hc:j.heap[fb]? =some (.cells (kB {F with a3:=F.a3++ [x]} {V with v11:=v} mc).toArray 89 (0,0))):cD j B fb mc {F with a3:=F.a3++ [x]} {V with v11:=v} :=by
 have hT:TF w [159] (fun k=>V.v11.ownBlock=some k):=TF.own h.dp (by decide)
 have hcl:=hm.gw hT h.cells (by decide)
 have hT2:TF w1 [91] (fun k=>k=fb):=TF.eq (cV hcl) (by decide)
 have hfl:∀ k,V.v11.ownBlock=some k→∀ cur z,w.heap[k]?≠some (.cells cur 71 z):=eT h.dp (by decide)
 have p:∀ k,k=fb→∀ cur z,w1.heap[k]?≠some (.cells cur 71 z):=dM hcl (by decide)
 have hmt:=dt (hf.md hm (hT.no (dt hf) (by decide)))
 exact ⟨hc,bI (bI h.o9 hm hT (by decide)) a hT2 (by decide),bI (bI h.dI hm hT (by decide)) a hT2 (by decide),(h.al.md hm hfl).md a p,bS q a (fun k hk hf=>cw q hcl (by decide) (hf ▸ hk)),bI (bI h.cQ hm hT (by decide)) a hT2 (by decide),(h.nx.md hm hfl).md a p,⟨f,(hf.md hm (hT.no (dt hf) (by decide))).md a (hT2.no hmt (by decide)),s⟩,h.lo,h.ef⟩
theorem bU.Jr {w w1 i:World} {B:Nat} {H:bO} {F F':aI} {R:eI} {rows:List Rw} {ln:Nat} {seen:List Tx} {v:Value} {q:eK} (h:bU w B H F R rows ln seen) (hm:Md (fun k=>R.vn.ownBlock=some k) w w1) (j:World.ownsRow w1 B 3 1 v (F.rules++ [q]).length ((F.rules++ [q]).map fun r=>Value.int .i64 (r.line:Nat))) (a:Md (fun k=>k=H.rb) w1 i) (hc:i.heap[H.rb]? =some (.cells (oU H {R with vn:=v} ln).toArray 92 (0,0))) (hr:F'.rules=F.rules++ [q]) (hd:∀ x,dw F' x=dw F x):bU i B H F' {R with vn:=v} rows ln seen:=by
 have hT:TF w [5] (fun k=>R.vn.ownBlock=some k):=TF.own h.on (by decide)
 have hcl:=hm.gw hT h.cells (by decide)
 have hT2:TF w1 [94] (fun k=>k=H.rb):=TF.eq (cV hcl) (by decide)
 obtain ⟨f,hf,p⟩:=h.sm
 obtain ⟨g,hg,hg2⟩:=h.tm
 have hf1:=hf.md hm (hT.no (dt hf) (by decide))
 have hg1:=hg.md hm (hT.no (dt hg) (by decide))
 exact ⟨hc,(h.rws.md hm (eT h.on (by decide))).md a (dM hcl (by decide)),(h.rt.md hm (eT h.on (by decide))).md a (dM hcl (by decide)),⟨f,hf1.md a (hT2.no (dt hf1) (by decide)),p⟩,⟨g,hg1.md a (hT2.no (dt hg1) (by decide)),fun x s=>by rw [hd]; exact hg2 x s⟩,by rw [hr]; exact bS j a (fun k hk hf=>cw j hcl (by decide) (hf ▸ hk)),h.lo,h.ne⟩
theorem GM {cs:List bX} {x:Nat} (h:(dK cs x).isSome=false):cs.findIdx? (fun c=>decide (c.flag=x))=none:=by
 rw [List.findIdx?_eq_none_iff]
 unfold dK at h
 rw [Option.isSome_eq_false_iff,Option.isNone_iff_eq_none,List.find?_eq_none] at h
 intro c hc
 simpa using h c hc
theorem FV {F:aI} {c:bX} (y:Nat):dw {F with a3:=F.a3++ [c]} y=(decide (y=c.flag) || dw F y):=by
 have h1:(dK (F.a3++ [c]) y).isSome=((dK F.a3 y).isSome || decide (y=c.flag)):=by
  unfold dK
  rw [List.find?_append,Option.isSome_or]
  congr 1
  by_cases h:c.flag=y
  · simp [h]
  · simp [h,Ne.symm h]
 unfold dw
 show (decide (y∈F.sp) || (dK (F.a3++ [c]) y).isSome)=_
 rw [h1]
 cases decide (y∈F.sp) <;> cases (dK F.a3 y).isSome <;> cases decide (y=c.flag) <;> rfl
theorem Fc {F:aI} {c:bX} {f:Value→Option Value} (hd:dw F c.flag=false) (hf:∀ x:Nat,f (aO x)=(F.a3.findIdx? fun c=>decide (c.flag=x)).map fun i:Nat=>Value.int .i64 i) (y:Nat):bj f (aO c.flag) (.int .i64 (F.a3.length:Nat)) (aO y)=((F.a3++ [c]).findIdx? fun c=>decide (c.flag=y)).map fun i:Nat=>Value.int .i64 i:=by
 unfold dw at hd
 rw [Bool.or_eq_false_iff] at hd
 rw [List.findIdx?_append]
 by_cases h:y=c.flag
 · subst h
   rw [oR,GM hd.2]
   simp
 · rw [nH (fun h2=>h (BS h2)),hf y]
   cases F.a3.findIdx? fun c=>decide (c.flag=y) <;> simp [Ne.symm h]
theorem sK {eof ln e:Nat} {F:aI} {rows:List Rw} {r:List Tx} (h:eF F (r.getD 1 [])= .error e):eN eof F rows ln r= .error (ln,e):=by unfold eN; rw [h]
theorem sL {eof ln x:Nat} {F:aI} {rows:List Rw} {r:List Tx} (h:eF F (r.getD 1 [])= .ok x) (h1:r.getD 2 []≠[89]) (h2:r.getD 2 []≠[78]):eN eof F rows ln r= .error (ln,114):=by unfold eN; rw [h]; exact if_pos ⟨h1,h2⟩
theorem xR {eof ln x e:Nat} {F:aI} {rows:List Rw} {r:List Tx} (h:eF F (r.getD 1 [])= .ok x) (h1:r.getD 2 []= [89]∨r.getD 2 []= [78]) (h2:dy (r.getD 3 []) 1024= .error e):eN eof F rows ln r= .error (ln,e):=by
 unfold eN; rw [h]; simp only; rw [if_neg (fun h3=>h1.elim h3.1 h3.2),h2]
theorem xS {eof ln x n:Nat} {F:aI} {rows:List Rw} {r:List Tx} (h:eF F (r.getD 1 [])= .ok x) (h1:r.getD 2 []= [89]∨r.getD 2 []= [78]) (h2:dy (r.getD 3 []) 1024= .ok n) (h3:1024 < F.rules.length+n):eN eof F rows ln r= .error (ln,117):=by
 unfold eN; rw [h]; simp only; rw [if_neg (fun h3=>h1.elim h3.1 h3.2),h2]; simp only; rw [if_pos h3]
theorem sM {eof ln x n:Nat} {F:aI} {rows:List Rw} {r:List Tx} {e:Nat×Nat} (h:eF F (r.getD 1 [])= .ok x) (h1:r.getD 2 []= [89]∨r.getD 2 []= [78]) (h2:dy (r.getD 3 []) 1024= .ok n) (h3:¬1024 < F.rules.length+n) (h4:group [r.getD 0 [],r.getD 1 []] (eC F.kind F.aliases (⟨x,(if r.getD 0 []=bQ then 2 else 1:Nat),(decide (r.getD 2 []= [89])),F.rules.length,n⟩:bX)) eof n rows= .error e):eN eof F rows ln r= .error e:=by
 unfold eN; rw [h]; simp only; rw [if_neg (fun h3=>h1.elim h3.1 h3.2),h2]; simp only; rw [if_neg h3,h4]
theorem EI {eof ln x n:Nat} {F:aI} {rows:List Rw} {r:List Tx} {q:List eK×List Rw} (h:eF F (r.getD 1 [])= .ok x) (h1:r.getD 2 []= [89]∨r.getD 2 []= [78]) (h2:dy (r.getD 3 []) 1024= .ok n) (h3:¬1024 < F.rules.length+n) (h4:group [r.getD 0 [],r.getD 1 []] (eC F.kind F.aliases (⟨x,(if r.getD 0 []=bQ then 2 else 1:Nat),(decide (r.getD 2 []= [89])),F.rules.length,n⟩:bX)) eof n rows= .ok q):eN eof F rows ln r= .ok ({F with a3:=F.a3++ [(⟨x,(if r.getD 0 []=bQ then 2 else 1:Nat),(decide (r.getD 2 []= [89])),F.rules.length,n⟩:bX)],rules:=F.rules++q.1},q.2):=by
 unfold eN; rw [h]; simp only; rw [if_neg (fun h3=>h1.elim h3.1 h3.2),h2]; simp only; rw [if_neg h3,h4]
theorem xT (B:Nat) (H:bO) (F:aI) (rows:List Rw) (ln:Nat) (seen:List Tx) (r:List Tx) (br:Nat) (I:Option Addr) (J:Nat) (w:World) (a:St w B H F rows ln seen) (hT:Tg w br 9 r.length (.slice I r.length J) (r.map str)) (hr:r.length=4) (hrl:∀ x∈r,x.length≤70000) (dP:F.bN.length+F.aliases.length+F.a3.length+F.rules.length+rows.length < 70000):
 dO Tryz.prog 65 (List.toArray [.pointer (some ⟨H.rb,0,none⟩),.slice I r.length J]) w (fR B H seen (eN H.eof F rows ln r) w) (fQ B H (eN H.eof F rows ln r) w):=by
 obtain ⟨V,R,hF,Y,hB⟩:=a
 have hTs:=hT.bH
 have hr1:(r.getD 1 []).length≤70000:=hrl _ (c6 (by omega))
 have d0:(r.getD 2 []).length≤70000:=hrl _ (c6 (by omega))
 have d1:(r.getD 3 []).length≤70000:=hrl _ (c6 (by omega))
 have hlo:=Y.lo
 have hbl:=hB.len
 have hrb0:=(Array.getElem?_eq_some_iff.1 Y.cells).1
 obtain ⟨b9,gx,dm⟩:=bW hF.cQ
 obtain ⟨bs,gn,b5⟩:=bW hF.dp
 have cW:Hb.aE w.heap H.fb 12=some (.slice b9 F.rules.length gx):=by rw [← dm]; exact (aQ hF.cells).trans rfl
 have dT:Hb.aE w.heap H.fb 11=some (.slice bs F.a3.length gn):=by rw [← b5]; exact (aQ hF.cells).trans rfl
 have c0:∀ b,w.heap.size≤b→¬(V.v11.ownBlock=some b):=fun b hb h=>by have :=cG hF.dp h; omega
 obtain ⟨d4,dl,b3⟩:=Y.tm
 refine gy Tryz.func65 rfl Tryz.ntmps65 rfl ?_
 refine c7 (fun aY bq=> ∃ (x E:Nat),(eF F (r.getD 1 [])= .ok x)∧(x≠0)∧(dw F x=false)∧(w.heap.size≤E)∧(bq.heap[E]? =some (.cells [aO x,.int .i64 (1:Nat),.bool false,.int .i64 (F.rules.length:Nat),.int .i64 (0:Nat)].toArray 157 (0,0)))∧(Wk w bq)∧(aY 0= .pointer (some ⟨H.rb,0,none⟩))∧(aY 1= .slice I r.length J)∧(aY 4= .pointer (some ⟨E,0,none⟩))) ?_ ?_
 have hS0:(fun w'=>Wk w w') w.drew:=(Md.refl _ _).drew
 refine bD (fun w'=>Wk w w') rfl wide hS0 (hp 0 rfl (by kernel_rfl) (fun _ _=>aC (.pointer (some ⟨H.rb,0,none⟩)) rfl) hS0 (hp 1 rfl (by kernel_rfl) (fun _ _=>aC (.slice I r.length J) rfl) hS0 (hp 2 rfl (by kernel_rfl) (fun _ _=>aJ bE rfl rfl (by omega) (aw.ok (hTs.2) (bp (by omega)))) hS0 (hp 3 rfl (by kernel_rfl) (fun w' a=>ld bz rfl (Wk.aE a (bu.get (i:=1) hTs.2 (by omega)))) hS0 (hp 5 rfl (by kernel_rfl) (fun _ _=>aC (.pointer (some ⟨H.rb,0,none⟩)) rfl) hS0 (hp 6 rfl (by kernel_rfl) (fun _ _=>nc rfl) hS0 (hp 7 rfl (by kernel_rfl) (fun _ _=>fa eR rfl) hS0 ?_)))))))
 refine hp 8 rfl (by kernel_rfl) (fun w' a=>ld ew rfl (Wk.aE a ((aQ Y.cells).trans rfl))) hS0 (hp 9 rfl (by kernel_rfl) (fun _ _=>nc rfl) hS0 (hp 10 rfl (by kernel_rfl) (fun _ _=>fa eA rfl) hS0 (hp 11 rfl (by kernel_rfl) (fun _ _=>fa la rfl) hS0 (hp 12 rfl (by kernel_rfl) (fun w' a=>ld mx rfl (Wk.aE a (cW))) hS0 (hp 13 rfl (by kernel_rfl) (fun _ _=>ba rH rfl rfl) hS0 (HY (Pn:=fun c w'=> ∃ e,eF F (r.getD 1 [])= .error e∧c=fL 25 ln (e:Nat)∧Wk w.drew w') 4 15 rfl rfl (by kernel_rfl) rfl rfl ?_ (fun c w' s an hF=>by obtain ⟨e,he,h,h2⟩:=s; exact ⟨ln,e,sK he,h,Wk.mw (Md.trans hS0 h2)⟩) ?_))))))
 refine (cz sG (tH B H F V R rows ln seen (r.getD 1 []) w.drew (hF.wk hS0) (Y.wk hS0) hB.kd (by omega)) rfl fun v10 w10 hR10=> ?_)
 obtain ⟨x,O,hx0,rfl,am,aP⟩:=hR10
 have Z:(fun w'=>Wk w w') w10:=Md.trans hS0 aP
 refine ⟨Z,?_⟩
 refine hp 14 rfl (by kernel_rfl) (fun _ _=>bZ (ps:= [(0,aO x),(1,.int .i64 (1:Nat)),(3,.int .i64 (F.rules.length:Nat))]) (L:= [aO x,.int .i64 (1:Nat),.bool false,.int .i64 (F.rules.length:Nat),.int .i64 0]) vf rfl (rfl)) Z (he 15 rfl (by kernel_rfl) (fT pc fun E w4 cR a9 a1=> ?_))
 have ae:(fun w'=>Wk w w') w4:=Md.trans Z a9.md
 refine ⟨ae,?_⟩
 refine he 16 rfl (by kernel_rfl) (gj ni rfl rfl rfl rfl a1 (by decide) fun w5 a7 a2=> ?_)
 have aH:(fun w'=>Wk w w') w5:=Md.trans' ae a7 (fun k hk h=>by have h1:=Md.size Z; have h2:=Md.size hS0; omega)
 refine ⟨aH,?_⟩
 exact hn (by kernel_rfl) (tn (⟨x,E,O,hx0,am,((by have h1:=Md.size Z; have h2:=Md.size hS0; omega)),a2,aH,rfl,rfl,rfl⟩))
 refine (fT pc fun E w4 cR a9 a1=> ?_)
 have ae:(fun w'=>Wk w w') w4:=Md.trans hS0 a9.md
 refine ⟨ae,?_⟩
 refine nA 4 rfl (by kernel_rfl) rfl (cz sG (tH B H F V R rows ln seen (r.getD 1 []) w4 (hF.wk ae) (Y.wk ae) hB.kd (by omega)) rfl fun v10 w10 hR10=> ?_) (fun c w' s an hF=>by obtain ⟨e,he,h,h2⟩:=s; exact ⟨ln,e,sK he,h,Wk.mw (Md.trans ae h2)⟩)
 obtain ⟨x,O,hx0,rfl,am,aP⟩:=hR10
 have Z:(fun w'=>Wk w w') w10:=Md.trans ae aP
 refine ⟨Z,?_⟩
 refine hp 14 rfl (by kernel_rfl) (fun _ _=>bZ (ps:= [(0,aO x),(1,.int .i64 (1:Nat)),(3,.int .i64 (F.rules.length:Nat))]) (L:= [aO x,.int .i64 (1:Nat),.bool false,.int .i64 (F.rules.length:Nat),.int .i64 0]) vf rfl (rfl)) Z (he 16 rfl (by kernel_rfl) (gj ni rfl rfl rfl rfl (Wk.aA aP a1) (by decide) fun w5 a7 a2=> ?_))
 have aH:(fun w'=>Wk w w') w5:=Md.trans' Z a7 (fun k hk h=>by have h1:=Md.size Z; have h2:=Md.size hS0; omega)
 refine ⟨aH,?_⟩
 exact hn (by kernel_rfl) (tn (⟨x,E,O,hx0,am,((by have h1:=Md.size Z; have h2:=Md.size hS0; omega)),a2,aH,rfl,rfl,rfl⟩))
 rintro aY bq ⟨x,E,O,hx0,am,hq4,hq1,aN,c4,c5,c9⟩
 refine fx 0 c4 (fx 1 c5 (fx 4 c9 ?_))
 refine c7 (fun aZ au=>(au.heap[E]? =some (.cells [aO x,.int .i64 ((if r.getD 0 []=bQ then 2 else 1:Nat):Nat),.bool false,.int .i64 (F.rules.length:Nat),.int .i64 (0:Nat)].toArray 157 (0,0)))∧(Wk w au)∧(aZ 0= .pointer (some ⟨H.rb,0,none⟩))∧(aZ 1= .slice I r.length J)∧(aZ 4= .pointer (some ⟨E,0,none⟩))) ?_ ?_
 refine sq (fun b8 a6=>rg rfl (p (aC (.slice I r.length J) rfl) (p (aJ bE rfl rfl (by omega) (aw.ok (aw.wk hTs.2 aN) (bp (by omega)))) (p (ld bz rfl (bu.get (i:=0) (aw.wk hTs.2 aN) (by omega))) (p (cI rfl rfl) (nl (tn (a6 _ _ ?_))))))))
 refine cd rfl (fun bh=> ?_) (fun bh=> ?_)
 exact rg rfl (p (fa qz rfl) (e (cj fV rfl rfl (v:= .int .i64 (2:Nat)) rfl hq1 (by show _ < 5; decide) fun w6 cy hB6=>nl (tn (⟨((by rw [if_pos (show r.getD 0 []=bQ from bh)]; exact hB6)),((aN.trans' cy (fun k hk h=>by omega))),rfl,rfl,rfl⟩)))))
 exact az (tn (⟨((by rw [if_neg (show ¬r.getD 0 []=bQ from bh)]; exact hq1)),aN,rfl,rfl,rfl⟩))
 rintro aZ au ⟨hq3,U,da,db,dc⟩
 refine fx 0 da (fx 1 db (fx 4 dc ?_))
 refine c7 (fun a0 b7=>(r.getD 2 []= [89]∨r.getD 2 []= [78])∧(b7=au)∧(a0 0= .pointer (some ⟨H.rb,0,none⟩))∧(a0 1= .slice I r.length J)∧(a0 4= .pointer (some ⟨E,0,none⟩))) ?_ ?_
 refine rg rfl (p (aC (.pointer (some ⟨H.rb,0,none⟩)) rfl) (p (aC (.slice I r.length J) rfl) (p (aJ bE rfl rfl (by omega) (aw.ok (aw.wk hTs.2 U) (bp (by omega)))) (p (ld bz rfl (bu.get (i:=2) (aw.wk hTs.2 U) (by omega))) (p (cI rfl rfl) (p mv (gs (t:=31) rfl (fun aU=> ?_) (fun aU=> ?_))))))))
 refine sk rfl rfl rfl rfl (sk rfl rfl rfl rfl (sk rfl rfl rfl rfl (sk rfl rfl rfl rfl (p (bg rfl) (eP rfl (cz eZ (e9 H.rb ln _ 114 au (Wk.aE U Y.bM) (by decide)) rfl fun ds w37 bb=> ?_) (fun c w' s an hF=>by first | exact absurd s.2.1 (by decide) | exact ⟨ln,114,sL O aU (of_decide_eq_false s.2.1),s.1,by rw [s.2.2]; exact Wk.mw U⟩))))))
 obtain ⟨rfl,b6,rfl⟩:=bb
 exact nl (tn (⟨(.inl aU),rfl,rfl,rfl,rfl⟩))
 refine pg rfl rfl rfl (aC (.slice I r.length J) rfl) (pg rfl rfl rfl (aJ bE rfl rfl (by omega) (aw.ok (aw.wk hTs.2 U) (bp (by omega)))) (pg rfl rfl rfl (ld bz rfl (bu.get (i:=2) (aw.wk hTs.2 U) (by omega))) (pg rfl rfl rfl (cI rfl rfl) (p (a5 rfl) (eP rfl (cz eZ (e9 H.rb ln _ 114 au (Wk.aE U Y.bM) (by decide)) rfl fun ds w37 bb=> ?_) (fun c w' s an hF=>by first | exact absurd s.2.1 (by decide) | exact ⟨ln,114,sL O aU (of_decide_eq_false s.2.1),s.1,by rw [s.2.2]; exact Wk.mw U⟩))))))
 obtain ⟨rfl,b6,rfl⟩:=bb
 exact nl (tn (⟨(.inr (of_decide_eq_true b6)),rfl,rfl,rfl,rfl⟩))
 rintro a0 b7 ⟨aq,dn,dd,de,df⟩
 refine fx 0 dd (fx 1 de (fx 4 df ?_))
 subst dn
 refine sq (fun b8 a6=>rg rfl (p (aC (.slice I r.length J) rfl) (p (aJ bE rfl rfl (by omega) (aw.ok (aw.wk hTs.2 U) (bp (by omega)))) (p (ld bz rfl (bu.get (i:=2) (aw.wk hTs.2 U) (by omega))) (p (cI rfl rfl) (p (fa zb rfl) (e (cj x8 rfl rfl (v:= .bool (decide (r.getD 2 []= [89]))) rfl hq3 (by show _ < 5; decide) fun w7 cA ch=> ?_))))))))
 have hE4:=U.trans' cA (fun k hk h=>by omega)
 refine nl (tn (a6 _ _ (sq (fun dy cp=>rg rfl (p (aC (.pointer (some ⟨H.rb,0,none⟩)) rfl) (p (aC (.slice I r.length J) rfl) (p (aJ bE rfl rfl (by omega) (aw.ok (aw.wk hTs.2 hE4) (bp (by omega)))) (p (ld bz rfl (bu.get (i:=3) (aw.wk hTs.2 hE4) (by omega))) ?_))))))))
 refine eP rfl (cz kX (q5 H.rb ln (r.getD 3 []) 1024 w7 (Wk.aE hE4 Y.bM) (by omega) (by omega)) rfl fun d7 d9 cO=> ?_) (fun c w' s an hF=>by obtain ⟨e,he,h,h2⟩:=s; exact ⟨ln,e,xR O aq he,h,Wk.mw (hE4.trans h2)⟩)
 obtain ⟨n,hnx,rfl,hE47⟩:=cO
 have hnl:=ur hnx
 refine p (fa tC rfl) (e (cj fV rfl rfl (v:= .int .i64 (n:Nat)) rfl (Wk.aA hE47 ch) (by show _ < 5; decide) fun w8 cF ci=> ?_))
 have hE5:=(hE4.trans hE47).trans' cF (fun k hk h=>by omega)
 have hb8:w8.heap[E]? =some (.cells [aO x,.int .i64 ((if r.getD 0 []=bQ then 2 else 1:Nat):Nat),.bool (decide (r.getD 2 []= [89])),.int .i64 (F.rules.length:Nat),.int .i64 (n:Nat)].toArray 157 (0,0)):=ci
 refine nl (tn (cp _ _ (sq (fun dz cq=>rg rfl (p (aC (.pointer (some ⟨H.rb,0,none⟩)) rfl) (p (fa G5 rfl) (p (ld bT rfl ((aQ hb8).trans rfl)) (p (fa tC rfl) ?_))))))))
 refine p (ld bT rfl ((aQ hb8).trans rfl)) (p (bc ((F.rules.length+n:Nat):Int) rfl rfl (aR (by omega) (by omega))) (p (le rfl rfl) (eP rfl (cz eZ (e9 H.rb ln _ 117 w8 (Wk.aE hE5 Y.bM) (by decide)) rfl fun d8 w56 cP=> ?_) (fun c w' s an hF=>⟨ln,117,xS O aq hnx (by have :=of_decide_eq_false s.2.1; omega),s.1,by rw [s.2.2]; exact Wk.mw hE5⟩))))
 obtain ⟨rfl,dq,rfl⟩:=cP
 have aM:¬1024 < F.rules.length+n:=by have :=of_decide_eq_true dq; omega
 have hR5:=Y.wk hE5
 have hF5:=hF.wk hE5
 have ht5:=dl.wk hE5
 refine nl (tn (cq _ _ (sq (fun dA cr=> ?_))))
 have aa:(fun w'=>Wk w56 w') w56.drew:=(Md.refl _ _).drew
 refine dH (fun w'=>Wk w56 w') 8 rfl wide aa (lq 0 rfl (by kernel_rfl) (fun _ _=>aC (.pointer (some ⟨H.rb,0,none⟩)) rfl) aa (lq 1 rfl (by kernel_rfl) (fun _ _=>nc rfl) aa (lq 2 rfl (by kernel_rfl) (fun _ _=>fa tE rfl) aa (lq 3 rfl (by kernel_rfl) (fun w' a=>ld n9 rfl (Wk.aE a ((aQ hR5.cells).trans rfl))) aa (lq 4 rfl (by kernel_rfl) (fun _ _=>fa tB rfl) aa (lq 5 rfl (by kernel_rfl) (fun w' a=>ld bL rfl (Wk.aE a ((aQ hb8).trans rfl))) aa (lq 6 rfl (by kernel_rfl) (fun w' a=>j7 ea kP mL (bP.md (ht5) a id) rfl rfl (⟨_,rfl⟩) (show _=Value.int .i64 0 from (b3 x hx0).trans (by rw [am]; rfl))) aa ?_)))))))
 refine lq 7 rfl (by kernel_rfl) (fun _ _=>bc ((1:Nat):Int) rfl rfl (aR (by omega) (by omega))) aa (cE 8 rfl (by kernel_rfl) (by kernel_rfl) (nQ ea mL (ht5.wk aa) rfl rfl rfl (⟨_,rfl⟩) fun av cB cK=> ?_))
 have hM7x:=ff cB
 have hR7:bU av B H {F with a3:=F.a3++ [(⟨x,(if r.getD 0 []=bQ then 2 else 1:Nat),(decide (r.getD 2 []= [89])),F.rules.length,n⟩:bX)]} R rows ln seen:=hR5.oL hM7x cK rfl (BL am b3 (fun y _=>FV y))
 have hF7:=hF5.oL hR5 hM7x
 have hb9:=hM7x.aA hb8 (fun h=>ht5.lj (h ▸ hb8))
 have hT7:=(hT.wk hE5).md hM7x (fun k hk cur z hg=>by subst hk; exact ht5.lj hg)
 have hMw7:=(Wk.mw hE5).trans (dN.mt hR5 hM7x)
 obtain ⟨cf,bi,cX⟩:=hF7.cm
 have cT:Hb.aE av.heap H.fb 11=some (.slice bs F.a3.length gn):=by rw [← b5]; exact (aQ hF7.cells).trans rfl
 refine dG (by kernel_rfl) ?_
 refine tn (cr _ _ (sq (fun dC cs=> ?_)))
 have A:(fun w'=>Wk av w') av.drew:=(Md.refl _ _).drew
 refine dH (fun w'=>Wk av w') 18 rfl wide A (lq 0 rfl (by kernel_rfl) (fun _ _=>aC (.pointer (some ⟨H.rb,0,none⟩)) rfl) A (lq 1 rfl (by kernel_rfl) (fun _ _=>nc rfl) A (lq 2 rfl (by kernel_rfl) (fun _ _=>fa eR rfl) A (lq 3 rfl (by kernel_rfl) (fun w' a=>ld ew rfl (Wk.aE a ((aQ hR7.cells).trans rfl))) A (lq 4 rfl (by kernel_rfl) (fun _ _=>nc rfl) A (lq 5 rfl (by kernel_rfl) (fun _ _=>fa zd rfl) A (lq 6 rfl (by kernel_rfl) (fun w' a=>ld n9 rfl (Wk.aE a ((aQ hF7.cells).trans rfl))) A ?_)))))))
 refine lq 7 rfl (by kernel_rfl) (fun _ _=>fa tB rfl) A (lq 8 rfl (by kernel_rfl) (fun w' a=>ld bL rfl (Wk.aE a ((aQ hb9).trans rfl))) A (lq 9 rfl (by kernel_rfl) (fun _ _=>aC (.pointer (some ⟨H.rb,0,none⟩)) rfl) A (lq 10 rfl (by kernel_rfl) (fun _ _=>nc rfl) A (lq 11 rfl (by kernel_rfl) (fun _ _=>fa eR rfl) A (lq 12 rfl (by kernel_rfl) (fun w' a=>ld ew rfl (Wk.aE a ((aQ hR7.cells).trans rfl))) A (lq 13 rfl (by kernel_rfl) (fun _ _=>nc rfl) A (lq 14 rfl (by kernel_rfl) (fun _ _=>fa eA rfl) A ?_)))))))
 refine lq 15 rfl (by kernel_rfl) (fun _ _=>fa ny rfl) A (lq 16 rfl (by kernel_rfl) (fun w' a=>ld pG rfl (Wk.aE a (cT))) A (lq 17 rfl (by kernel_rfl) (fun _ _=>ba BV rfl rfl) A (cE 18 rfl (by kernel_rfl) (by kernel_rfl) (nQ ea mL (bi.wk A) rfl rfl rfl (⟨_,rfl⟩) fun ax cH cL=> ?_))))
 have cM:bP ax.heap H.mc (lg .u16) (bj cf (aO x) (.int .i64 (F.a3.length:Nat))):=cL
 have hM8x:=ff cH
 have bf:TF av [1] (fun k=>k=H.mc):=TF.eq (dt bi) (by decide)
 have hX8:=(GD hF7).md (L:= [1]) hM8x bf (by decide)
 have hR8:=hR7.md (L:= [1]) hM8x bf (by decide) hR7.ne.2.1 hR7.ne.2.2
 have hb10:=hM8x.gw bf hb9 (by decide)
 have hT8x:=hT7.md hM8x (fun k hk cur z hg=>by subst hk; exact bi.lj hg)
 have hMw8:=hMw7.trans (hM8x.mono (fun k _ hk=>⟨hk ▸ hF7.lo.2,.inr (.inr (.inl hk))⟩))
 have hn4:=c0 E hq4
 have aL:¬(V.v11.ownBlock=some H.rb):=cw hX8.dp hR8.cells (by decide)
 have bk:¬(V.v11.ownBlock=some H.fb):=cw hX8.dp hX8.cells (by decide)
 refine dG (by kernel_rfl) ?_
 refine tn (cs _ _ (sq (fun dD ct=> ?_)))
 have M:(fun w'=>Md (fun k=>V.v11.ownBlock=some k) ax w') ax.drew:=(Md.refl _ _).drew
 refine dH (fun w'=>Md (fun k=>V.v11.ownBlock=some k) ax w') 18 rfl wide M (bV 0 rfl (by kernel_rfl) (fun _=>aC (.pointer (some ⟨H.rb,0,none⟩)) rfl) (fun _=>M) (bV 1 rfl (by kernel_rfl) (fun _=>nc rfl) (fun _=>M) (bV 2 rfl (by kernel_rfl) (fun _=>fa eR rfl) (fun _=>M) (gK 3 rfl (by kernel_rfl) (fun w' a=>ld ew rfl (Md.aE a ((aQ hR8.cells).trans rfl) aL)) M (bV 4 rfl (by kernel_rfl) (fun _=>aC (.pointer (some ⟨H.rb,0,none⟩)) rfl) (fun _=>M) (bV 5 rfl (by kernel_rfl) (fun _=>nc rfl) (fun _=>M) (bV 6 rfl (by kernel_rfl) (fun _=>fa eR rfl) (fun _=>M) ?_)))))))
 refine gK 7 rfl (by kernel_rfl) (fun w' a=>ld ew rfl (Md.aE a ((aQ hR8.cells).trans rfl) aL)) M (bV 8 rfl (by kernel_rfl) (fun _=>nc rfl) (fun _=>M) (bV 9 rfl (by kernel_rfl) (fun _=>fa eA rfl) (fun _=>M) (bV 10 rfl (by kernel_rfl) (fun _=>fa ny rfl) (fun _=>M) (gK 11 rfl (by kernel_rfl) (fun w' a=>ld pG rfl (Md.aE a ((aQ hX8.cells).trans rfl) bk)) M (gK 12 rfl (by kernel_rfl) (fun w' a=>dB nZ rfl (rfl) (fun j cY=>bG.c8 ⟨_,Md.aA a hb10 hn4⟩ j)) M (fE 13 rfl (by kernel_rfl) (im rr rfl rfl rfl fun dL w96 dS bx ck=> ?_)))))))
 have hE96:=ff bx.md
 have hX9:=hX8.wk hE96
 have hR9:=hR8.wk hE96
 have hsz9:=(Array.getElem?_eq_some_iff.1 hR9.cells).1
 have bJ:(fun w'=>Md (fun k=>V.v11.ownBlock=some k) ax w') w96:=M.trans' bx.md (fun _ _ h=>h.elim)
 refine ⟨bJ,?_⟩
 refine fE 14 rfl (by kernel_rfl) (ap rr (hX9.dp) rfl (by omega) rfl (aw.cU ck) (rfl) (rfl) (by omega) (by omega) fun bo w97 b1 aj hz97 dZ=> ?_)
 have hMw9:=(hMw8.trans (Wk.mw hE96)).trans (Mw.of aj (TF.own hX9.dp (by decide)) (fun k hk=>(cG hX9.dp hk).1))
 have hR10:=bU.own hR9 hX9.dp aj (by decide)
 have hc10:=aj.aA hX9.cells (cw hX9.dp hX9.cells (by decide))
 have hb11:=aj.aA (Wk.aA hE96 hb10) hn4
 have hT10:=(hT8x.wk hE96).md aj (eT hX9.dp (by decide))
 have c3:World.ownsRow w97 B 157 5 bo (F.a3++ [(⟨x,(if r.getD 0 []=bQ then 2 else 1:Nat),(decide (r.getD 2 []= [89])),F.rules.length,n⟩:bX)]).length (jv (F.a3++ [(⟨x,(if r.getD 0 []=bQ then 2 else 1:Nat),(decide (r.getD 2 []= [89])),F.rules.length,n⟩:bX)])):=by rw [show jv (F.a3++ [(⟨x,(if r.getD 0 []=bQ then 2 else 1:Nat),(decide (r.getD 2 []= [89])),F.rules.length,n⟩:bX)])=jv F.a3++k0 (⟨x,(if r.getD 0 []=bQ then 2 else 1:Nat),(decide (r.getD 2 []= [89])),F.rules.length,n⟩:bX) from by simp [jv],List.length_append]; exact b1
 have aT:(fun w'=>Md (fun k=>V.v11.ownBlock=some k) ax w') w97:=bJ.trans' aj (fun _ _ h=>h)
 refine ⟨aT,?_⟩
 refine bV 15 rfl (by kernel_rfl) (fun _=>nc rfl) (fun _=>aT) (bV 16 rfl (by kernel_rfl) (fun _=>fa eA rfl) (fun _=>aT) (bV 17 rfl (by kernel_rfl) (fun _=>fa ny rfl) (fun _=>aT) (cE 18 rfl (by kernel_rfl) (by kernel_rfl) (cj ye rfl rfl (v:=bo) (dU b1) hc10 (by show _ < 14; omega) fun w9 hM9 a4=> ?_))))
 have hF11:=ki.r5 (x:=(⟨x,(if r.getD 0 []=bQ then 2 else 1:Nat),(decide (r.getD 2 []= [89])),F.rules.length,n⟩:bX)) hX9 (cM.wk hE96) (Fc (c:=(⟨x,(if r.getD 0 []=bQ then 2 else 1:Nat),(decide (r.getD 2 []= [89])),F.rules.length,n⟩:bX)) am cX) aj c3 hM9 a4
 have hR11:=bU.kA hR10 hc10 hM9
 have hb12:=hM9.aA hb11 (fun h=>by rw [h,hc10] at hb11; cases hb11)
 have hT11:=hT10.md hM9 (dM hc10 (by decide))
 have hMw10:=hMw9.trans (Mw.of hM9 (TF.eq (cV hc10) (by decide)) (fun k hk=>hk ▸ hX9.lo.1))
 refine dG (by kernel_rfl) ?_
 refine tn (ct _ _ (sq (fun dE cu=>rg rfl (p (fa tC rfl) (p (ld bT rfl ((aQ hb12).trans rfl)) (p mv (nl (tn (cu _ _ ?_)))))))))
 refine aA (lp (fun bt ay wI=> ∃ (i:Nat) (xs:List eK) (rows':List Rw) (aV:Nat) (C:dW) (R':eI),(i≤n)∧(fz [r.getD 0 [],r.getD 1 []] (eC F.kind F.aliases (⟨x,(if r.getD 0 []=bQ then 2 else 1:Nat),(decide (r.getD 2 []= [89])),F.rules.length,n⟩:bX)) H.eof (group [r.getD 0 [],r.getD 1 []] (eC F.kind F.aliases (⟨x,(if r.getD 0 []=bQ then 2 else 1:Nat),(decide (r.getD 2 []= [89])),F.rules.length,n⟩:bX)) H.eof n rows) xs (n - i) rows')∧(xs.length=i)∧(cD wI B H.fb H.mc {F with a3:=F.a3++ [(⟨x,(if r.getD 0 []=bQ then 2 else 1:Nat),(decide (r.getD 2 []= [89])),F.rules.length,n⟩:bX)],rules:=F.rules++xs} C)∧(bU wI B H {F with a3:=F.a3++ [(⟨x,(if r.getD 0 []=bQ then 2 else 1:Nat),(decide (r.getD 2 []= [89])),F.rules.length,n⟩:bX)],rules:=F.rules++xs} R' rows' aV seen)∧(ik {F with a3:=F.a3++ [(⟨x,(if r.getD 0 []=bQ then 2 else 1:Nat),(decide (r.getD 2 []= [89])),F.rules.length,n⟩:bX)],rules:=F.rules++xs} rows' seen)∧(dN B H w wI)∧(wI.heap[E]? =some (.cells [aO x,.int .i64 ((if r.getD 0 []=bQ then 2 else 1:Nat):Nat),.bool (decide (r.getD 2 []= [89])),.int .i64 (F.rules.length:Nat),.int .i64 (n:Nat)].toArray 157 (0,0)))∧(Tg wI br 9 r.length (.slice I r.length J) (r.map str))∧(ay 0= .pointer (some ⟨H.rb,0,none⟩))∧(ay 1= .slice I r.length J)∧(ay 4= .pointer (some ⟨E,0,none⟩))∧(ay 102= .int .i64 (n:Nat))∧(ay 103= .int .i64 (i:Nat))∧(n - i=bt)) _ ⟨0,[],rows,ln,{V with v11:=bo},R,(by omega),fz.start,rfl,((by rw [List.append_nil]; exact hF11)),((by rw [List.append_nil]; exact hR11)),(⟨by simp only [List.length_append,List.length_singleton,List.length_nil]; omega,hB.sl,hB.row,hB.kd,hB.al⟩),hMw10,hb12,hT11,rfl,rfl,rfl,rfl,rfl,rfl⟩ ?_)
 rintro bt ay wI ⟨i,xs,rows',aV,C,R',hi,ao,hxl,bv,ab,aF,hMw,b2,aK,dg,dh,dk,di,dj,rfl⟩
 refine fx 0 dg (fx 1 dh (fx 4 dk (fx 102 di (fx 103 dj (sq (fun dF cv=>rg rfl (p (lt rfl rfl) (nl (tn (cv _ _ (sq (fun dI cx=>cd rfl (fun cS=> ?_) (fun cS=> ?_)))))))))))))
 refine az (tn (cx _ _ (sq (fun du cl=>aA (sq (fun dv cn=> ?_))))))
 have ac:(fun w'=>Md (fun k=>k=H.rb) wI w') wI.drew:=(Md.refl _ _).drew
 refine bD (fun w'=>Md (fun k=>k=H.rb) wI w') rfl wide ac (hp 0 rfl (by kernel_rfl) (fun _ _=>aC (.pointer (some ⟨H.rb,0,none⟩)) rfl) ac (hp 1 rfl (by kernel_rfl) (fun _ _=>aC (.slice I r.length J) rfl) ac (hp 2 rfl (by kernel_rfl) (fun _ _=>aJ bE rfl rfl (by omega) (aw.ok (aK.bH.2) (bp (by omega)))) ac (hp 3 rfl (by kernel_rfl) (fun w' a=>ld bz rfl (bu.get (i:=0) (aK.md a (dM ab.cells (by decide))).bH.2 (by omega))) ac (hp 4 rfl (by kernel_rfl) (fun _ _=>aC (.slice I r.length J) rfl) ac (hp 5 rfl (by kernel_rfl) (fun _ _=>aJ bE rfl rfl (by omega) (aw.ok (aK.bH.2) (bp (by omega)))) ac (hp 6 rfl (by kernel_rfl) (fun w' a=>ld bz rfl (bu.get (i:=1) (aK.md a (dM ab.cells (by decide))).bH.2 (by omega))) ac ?_)))))))
 refine he 7 rfl (by kernel_rfl) (nb (L:= [str (r.getD 0 []),str (r.getD 1 [])]) dV rfl rfl rfl rfl fun cb w14 hb14 bw ce=> ?_)
 have hE14:Wk wI w14:=ff bw.md
 have hMw14:=hMw.trans (Wk.mw hE14)
 have bA:(fun w'=>Md (fun k=>k=H.rb) wI w') w14:=ac.trans' bw.md (fun _ _ h=>h.elim)
 refine ⟨bA,?_⟩
 refine nA 8 rfl (by kernel_rfl) rfl (cz sH (tV B H {F with a3:=F.a3++ [(⟨x,(if r.getD 0 []=bQ then 2 else 1:Nat),(decide (r.getD 2 []= [89])),F.rules.length,n⟩:bX)],rules:=F.rules++xs} R' rows' aV seen [r.getD 0 [],r.getD 1 []] cb 2 _ _ w14 (ab.wk hE14) (Tg.uw ce rfl) rfl (by decide) (fun q hq=>(aF.row q hq).2.1)) rfl fun d6 w15 hR15=> ?_) (fun c w' s an hF=>by
  obtain ⟨h1,h2⟩:=s
  have hm:=hMw14.trans (dN.rb (ab.wk hE14) h2)
  rcases h1 with ⟨rfl,h3⟩ | ⟨aW,ar,rest,rfl,h4,h3⟩
  exact ⟨_,_,sM O aq hnx aM (ao.ends (by omega)),h3,hm⟩
  exact ⟨_,_,sM O aq hnx aM (ao.other (by omega) h4),h3,hm⟩)
 obtain ⟨aW,ar,rest,rfl,b4,⟨ag,hR2⟩,hT15,hM15⟩:=hR15
 obtain ⟨ca,ng,rfl⟩:=hT15.slice
 have hF2:=(bv.wk hE14).rb (ab.wk hE14) hM15
 have hMw2:=hMw14.trans (dN.rb (ab.wk hE14) hM15)
 have hrow:ar≠[]∧ar.length≤70000∧∀ x∈ar,x.length≤70000:=aF.row (aW,ar) (by simp)
 have hB2:=ik.k4 aF
 have hbl2:=aF.len
 simp only [List.length_cons,List.length_append] at hbl2
 have hT2:=(aK.wk hE14).md hM15 (dM (ab.wk hE14).cells (by decide))
 have hb2:=hM15.aA (Wk.aA hE14 b2) (fun h=>by have h1:=(ab.wk hE14).cells; rw [← h,Wk.aA hE14 b2] at h1; cases h1)
 have bB:(fun w'=>Md (fun k=>k=H.rb) wI w') w15:=bA.trans' hM15 (fun _ _ h=>h)
 refine ⟨bB,?_⟩
 refine hp 9 rfl (by kernel_rfl) (fun _ _=>ak) bB (hn (by kernel_rfl) (tn (cn _ _ (sq (fun dx co=> ?_)))))
 have aL:¬(C.cC.ownBlock=some H.rb):=cw hF2.cQ hR2.cells (by decide)
 have bk:¬(C.cC.ownBlock=some H.fb):=cw hF2.cQ hF2.cells (by decide)
 have cZ:¬(C.cC.ownBlock=some E):=cw hF2.cQ hb2 (by decide)
 have G:(fun w'=>Md (fun k=>C.cC.ownBlock=some k) w15 w') w15.drew:=(Md.refl _ _).drew
 refine dH (fun w'=>Md (fun k=>C.cC.ownBlock=some k) w15 w') 21 rfl wide G (bV 0 rfl (by kernel_rfl) (fun _=>aC (.pointer (some ⟨H.rb,0,none⟩)) rfl) (fun _=>G) (bV 1 rfl (by kernel_rfl) (fun _=>nc rfl) (fun _=>G) (bV 2 rfl (by kernel_rfl) (fun _=>fa eR rfl) (fun _=>G) (gK 3 rfl (by kernel_rfl) (fun w' a=>ld ew rfl (Md.aE a ((aQ hR2.cells).trans rfl) aL)) G (bV 4 rfl (by kernel_rfl) (fun _=>aC (.pointer (some ⟨H.rb,0,none⟩)) rfl) (fun _=>G) (bV 5 rfl (by kernel_rfl) (fun _=>nc rfl) (fun _=>G) (bV 6 rfl (by kernel_rfl) (fun _=>fa eR rfl) (fun _=>G) ?_)))))))
 refine gK 7 rfl (by kernel_rfl) (fun w' a=>ld ew rfl (Md.aE a ((aQ hR2.cells).trans rfl) aL)) G (bV 8 rfl (by kernel_rfl) (fun _=>nc rfl) (fun _=>G) (bV 9 rfl (by kernel_rfl) (fun _=>fa eA rfl) (fun _=>G) (bV 10 rfl (by kernel_rfl) (fun _=>fa la rfl) (fun _=>G) (gK 11 rfl (by kernel_rfl) (fun w' a=>ld mx rfl (Md.aE a ((aQ hF2.cells).trans rfl) bk)) G (bV 12 rfl (by kernel_rfl) (fun _=>aC (.pointer (some ⟨H.rb,0,none⟩)) rfl) (fun _=>G) (gK 13 rfl (by kernel_rfl) (fun w' a=>dB nZ rfl (rfl) (fun j cY=>bG.c8 ⟨_,Md.aA a hb2 cZ⟩ j)) G (bV 14 rfl (by kernel_rfl) (fun _=>mv) (fun _=>G) ?_)))))))
 refine z8 15 rfl (by kernel_rfl) rfl (cz Dc (KO B H {F with a3:=F.a3++ [(⟨x,(if r.getD 0 []=bQ then 2 else 1:Nat),(decide (r.getD 2 []= [89])),F.rules.length,n⟩:bX)],rules:=F.rules++xs} C ag rest aW seen (⟨x,(if r.getD 0 []=bQ then 2 else 1:Nat),(decide (r.getD 2 []= [89])),F.rules.length,n⟩:bX) ar B ca ng w15.drew (hF2.wk (Md.refl _ _).drew) (hR2.wk (Md.refl _ _).drew) hB2 (by show (if r.getD 0 []=bQ then 2 else 1)=1∨(if r.getD 0 []=bQ then 2 else 1)=2; split <;> simp) (hT15.wk (Md.refl _ _).drew) hrow.2) rfl fun d5 w129 cN=> ?_) (fun c w' s an hF=>by obtain ⟨e,he,h,h2⟩:=s; exact ⟨_,_,sM O aq hnx aM (ao.bad (by omega) b4 he),h,hMw2.trans (Wk.mw (ff h2))⟩)
 obtain ⟨q,hq,hql,⟨vn,rfl,bS⟩,hE129⟩:=cN
 obtain ⟨aB,aD,rfl⟩:=bS.slice
 have hE129:=ff hE129
 have bC:(fun w'=>Md (fun k=>C.cC.ownBlock=some k) w15 w') w129:=Md.mono hE129 (fun _ _ h=>h.elim)
 refine ⟨bC,?_⟩
 refine fE 16 rfl (by kernel_rfl) (im rv rfl rfl rfl fun dJ w130 dQ a8 cc=> ?_)
 have hE130:=hE129.trans a8.md
 have hF4:=hF2.wk hE130
 have hR4:=hR2.wk hE130
 have hT4:=hT2.wk hE130
 have hb4x:=Wk.aA hE130 hb2
 have hTq4:=bS.wk a8.md
 have hsz4:=(Array.getElem?_eq_some_iff.1 hR4.cells).1
 have bF:(fun w'=>Md (fun k=>C.cC.ownBlock=some k) w15 w') w130:=bC.trans' a8.md (fun _ _ h=>h.elim)
 refine ⟨bF,?_⟩
 refine fE 17 rfl (by kernel_rfl) (ap rv (hF4.cQ) rfl (by omega) rfl (aw.cU cc) (rfl) (rfl) (by simp only [List.length_append]; omega) (by simp only [List.length_append]; omega) fun bl w131 bY ah d2 dX=> ?_)
 have hMw5:=(hMw2.trans (Wk.mw hE130)).trans (Mw.of ah (TF.own hF4.cQ (by decide)) (fun k hk=>(cG hF4.cQ hk).1))
 have hR5x:=bU.own hR4 hF4.cQ ah (by decide)
 have hc5:=ah.aA hF4.cells (cw hF4.cQ hF4.cells (by decide))
 have hb5:=ah.aA hb4x (cw hF4.cQ hb4x (by decide))
 have hT5:=hT4.md ah (eT hF4.cQ (by decide))
 have c1:World.ownsRow w131 B 155 7 bl ((F.rules++xs)++ [q]).length (fZ (((F.rules++xs)++ [q]).zip (C.rn++ [.slice aB q.next.length aD]))):=by
  have dr:(F.rules++xs).length=C.rn.length:=by have :=hF4.nx.1; rw [List.length_map] at this; exact this.symm
  rw [List.zip_append dr,show fZ ((F.rules++xs).zip C.rn++ [q].zip [.slice aB q.next.length aD])=fZ ((F.rules++xs).zip C.rn)++iz (q,.slice aB q.next.length aD) from by simp [fZ],List.length_append]
  exact bY
 have aS:(fun w'=>Md (fun k=>C.cC.ownBlock=some k) w15 w') w131:=bF.trans' ah (fun _ _ h=>h)
 refine ⟨aS,?_⟩
 refine bV 18 rfl (by kernel_rfl) (fun _=>nc rfl) (fun _=>aS) (bV 19 rfl (by kernel_rfl) (fun _=>fa eA rfl) (fun _=>aS) (bV 20 rfl (by kernel_rfl) (fun _=>fa la rfl) (fun _=>aS) (cE 21 rfl (by kernel_rfl) (by kernel_rfl) (cj yf rfl rfl (v:=bl) (dU bY) hc5 (by show _ < 14; omega) fun w9 hM9 a4=> ?_))))
 have hF6:=cD.pK (x:=q) (vx:= .slice aB q.next.length aD) hF4 hTq4 ah c1 hM9 a4
 have hR6:=bU.kA hR5x hc5 hM9
 have hb6x:=hM9.aA hb5 (fun h=>by rw [h,hc5] at hb5; cases hb5)
 have hT6:=hT5.md hM9 (dM hc5 (by decide))
 have hMw6:=hMw5.trans (Mw.of hM9 (TF.eq (cV hc5) (by decide)) (fun k hk=>hk ▸ hF4.lo.1))
 refine dG (by kernel_rfl) ?_
 refine tn (co _ _ ?_)
 have hS14:(fun w'=>Md (fun k=>ag.vn.ownBlock=some k) w9 w') w9.drew:=(Md.refl _ _).drew
 refine dH (fun w'=>Md (fun k=>ag.vn.ownBlock=some k) w9 w') 13 rfl wide hS14 (bV 0 rfl (by kernel_rfl) (fun _=>aC (.pointer (some ⟨H.rb,0,none⟩)) rfl) (fun _=>hS14) (bV 1 rfl (by kernel_rfl) (fun _=>aC (.pointer (some ⟨H.rb,0,none⟩)) rfl) (fun _=>hS14) (bV 2 rfl (by kernel_rfl) (fun _=>nc rfl) (fun _=>hS14) (bV 3 rfl (by kernel_rfl) (fun _=>fa tF rfl) (fun _=>hS14) (gK 4 rfl (by kernel_rfl) (fun w' a=>ld m8 rfl (Md.aE a ((aQ hR6.cells).trans rfl) (cw hR6.on hR6.cells (by decide)))) hS14 (bV 5 rfl (by kernel_rfl) (fun _=>aC (.pointer (some ⟨H.rb,0,none⟩)) rfl) (fun _=>hS14) (bV 6 rfl (by kernel_rfl) (fun _=>nc rfl) (fun _=>hS14) ?_)))))))
 refine bV 7 rfl (by kernel_rfl) (fun _=>fa oF rfl) (fun _=>hS14) (gK 8 rfl (by kernel_rfl) (fun w' a=>ld bT rfl (Md.aE a ((aQ hR6.cells).trans rfl) (cw hR6.on hR6.cells (by decide)))) hS14 (fE 9 rfl (by kernel_rfl) (ec jM rfl rfl fun dK w144 dR cJ cg=> ?_)))
 have hE144:=ff cJ.md
 have hR7x:=hR6.wk hE144
 have hF7x:=hF6.wk hE144
 have hsz7:=(Array.getElem?_eq_some_iff.1 hR7x.cells).1
 have bI:(fun w'=>Md (fun k=>ag.vn.ownBlock=some k) w9 w') w144:=Md.mono hE144 (fun _ _ h=>h.elim)
 refine ⟨bI,?_⟩
 refine fE 10 rfl (by kernel_rfl) (ap jM (hR7x.on) rfl (by omega) rfl (aw.cU cg) (rfl) (rfl) (by simp only [List.length_append]; omega) (by simp only [List.length_append]; omega) fun aX w145 b0 ai d3 dY=> ?_)
 have hMw7x:=(hMw6.trans (Wk.mw hE144)).trans (Mw.of ai (TF.own hR7x.on (by decide)) (fun k hk=>(cG hR7x.on hk).1))
 have bR:TF w144 [5] (fun k=>ag.vn.ownBlock=some k):=TF.own hR7x.on (by decide)
 have hF8x:=hF7x.md ai bR (by decide) (fun h=>by obtain ⟨f,hf,_⟩:=hF7x.cm; exact bR.no (dt hf) (by decide) h)
 have hc8:=ai.aA hR7x.cells (cw hR7x.on hR7x.cells (by decide))
 have hb8x:=ai.aA (Wk.aA hE144 hb6x) (cw hR7x.on (Wk.aA hE144 hb6x) (by decide))
 have hT8y:=(hT6.wk hE144).md ai (eT hR7x.on (by decide))
 have c2:World.ownsRow w145 B 3 1 aX ((F.rules++xs)++ [q]).length (((F.rules++xs)++ [q]).map fun r=>Value.int .i64 (r.line:Nat)):=by
  rw [List.map_append,List.length_append]
  show World.ownsRow w145 B 3 1 aX _ (_++ [Value.int .i64 (q.line:Nat)])
  rw [hql]
  exact b0
 have bd:(fun w'=>Md (fun k=>ag.vn.ownBlock=some k) w9 w') w145:=bI.trans' ai (fun _ _ h=>h)
 refine ⟨bd,?_⟩
 refine bV 11 rfl (by kernel_rfl) (fun _=>nc rfl) (fun _=>bd) (bV 12 rfl (by kernel_rfl) (fun _=>fa tF rfl) (fun _=>bd) (cE 13 rfl (by kernel_rfl) (by kernel_rfl) (cj ya rfl rfl (v:=aX) (dU b0) hc8 (by show _ < 7; omega) fun w10 aG hB10=> ?_)))
 have bK:TF w145 [94] (fun k=>k=H.rb):=TF.eq (cV hc8) (by decide)
 have hF9x:=hF8x.md aG bK (by decide) (fun h=>by obtain ⟨f,hf,_⟩:=hF8x.cm; exact bK.no (dt hf) (by decide) h)
 refine dG (by kernel_rfl) ?_
 exact bn (tn (cl _ _ (rg rfl (p (ad rfl rfl (bm (by omega))) (p mv (nl (tn (⟨_,by omega,i+1,xs++ [q],rest,aW,{C with cC:=bl,rn:=C.rn++ [.slice aB q.next.length aD]},{ag with vn:=aX},(by omega),((by rw [show n - (i+1)=n - i - 1 by omega]; exact ao.step (by omega) b4 hq)),((by rw [List.length_append,hxl]; rfl)),((by rw [← List.append_assoc]; exact hF9x)),((by rw [← List.append_assoc]; exact bU.Jr (q:=q) hR7x ai c2 aG hB10 rfl (fun _=>rfl))),(⟨by simp only [List.length_append,List.length_singleton]; omega,hB2.sl,hB2.row,hB2.kd,hB2.al⟩),((hMw7x.trans (Mw.of aG (TF.eq (cV hc8) (by decide)) (fun k hk=>hk ▸ hR7x.lo.1)))),((aG.aA hb8x (fun h=>by rw [h,hc8] at hb8x; cases hb8x))),((hT8y.md aG (dM hc8 (by decide)))),rfl,rfl,rfl,rfl,rfl,rfl⟩))))))))
 refine ext (te _ (te _ (be (gh ?_))))
 refine f0 rfl ?_
 rw [show n - i=0 by omega] at ao
 exact ⟨rfl,_,rows',aV,EI O aq hnx aM ao.done,⟨C,R',bv,ab,aF⟩,hMw⟩
end Go.Hb.jP
end
section
set_option maxRecDepth 20000
set_option maxHeartbeats 1000000
namespace Go.Hb.kQ
open Go.Hb.di
open Go.Proofs
open Go.Hb.eX Go.Hb.fH Go.Hb.iV Go.Hb.fP Go.Hb.iG Go.Hb.jP Go.Hb.ko Go.Hb.gF Go.Hb.lJ Go.Hb.g4 Go.Hb.kS Go.Hb.lH Go.Hb.gr Go.Hb.fS
def p4:bX:=⟨0,0,false,0,0⟩
theorem GK {x:Nat} :∀ {cs:List bX} {i:Nat},cs.findIdx? (fun c=>decide (c.flag=x))=some i→∃ c,cs[i]? =some c∧dK cs x=some c:=by
 intro cs
 induction cs with
 | nil=>intro i h; simp at h
 | cons a l ih=>
   intro i h
   rw [List.findIdx?_cons] at h
   unfold dK
   rw [List.find?_cons]
   by_cases p:a.flag=x
   · simp only [p,decide_true,if_true] at h ⊢
     cases h
     exact ⟨a,rfl,rfl⟩
   · simp only [p,decide_false] at h ⊢
     simp only [Bool.false_eq_true,if_false,Option.map_eq_some_iff] at h
     obtain ⟨j,q,rfl⟩:=h
     obtain ⟨c,h1,h2⟩:=ih q
     exact ⟨c,by simpa using h1,h2⟩
theorem Az {F:aI} {x:Nat} (h:x=F.sp.getD 0 0):jk F x=true :=by unfold jk; rw [decide_eq_true h]; rfl
theorem AA {F:aI} {x:Nat} (h:(dK F.a3 x).isSome=true) (hk:((dK F.a3 x).getD p4).kind=2):jk F x=true :=by
 unfold jk
 obtain ⟨c,hc⟩:=Option.isSome_iff_exists.1 h
 rw [hc] at hk ⊢
 simp only [Option.getD_some] at hk
 simp [hk]
theorem qX {F:aI} {x:Nat} (h0:x≠F.sp.getD 0 0) (h:(dK F.a3 x).isSome=true) (hk:((dK F.a3 x).getD p4).kind≠2):jk F x=false :=by
 unfold jk
 obtain ⟨c,hc⟩:=Option.isSome_iff_exists.1 h
 rw [hc] at hk ⊢
 simp only [Option.getD_some] at hk
 rw [decide_eq_false h0]
 simp [hk]
theorem qY {F:aI} {x:Nat} (h0:x≠F.sp.getD 0 0) (h:(dK F.a3 x).isSome=false):jk F x=false :=by
 unfold jk
 rw [decide_eq_false h0]
 cases hc:dK F.a3 x with
 | none=>rfl
 | some c=>rw [hc] at h; cases h
theorem lQ {F:aI} {q:eK} {j:Nat} (a:j < q.next.length) (h:jk F (q.next.getD j 0)=false):jT F q=true :=by
 unfold jT
 rw [List.any_eq_true]
 exact ⟨_,c6 a,by rw [h]; rfl⟩
theorem wO {F:aI} {q:eK} (h:∀ j,j < q.next.length→jk F (q.next.getD j 0)=true):jT F q=false :=by
 unfold jT
 rw [List.any_eq_false]
 intro x i
 obtain ⟨j,a,rfl⟩:=lh 0 i
 rw [h j a]; simp
theorem lW {p:eK→Bool} {q:eK} :∀ {l:List eK} {i:Nat},(∀ j s,j < i→l[j]? =some s→p s=false)→l[i]? =some q→p q=true→l.find? p=some q:=by
 intro l
 induction l with
 | nil=>intro i _ h; simp at h
 | cons a l ih=>
   intro i A hi hp
   rw [List.find?_cons]
   cases i with
   | zero=>simp only [List.getElem?_cons_zero,Option.some.injEq] at hi; subst hi; rw [hp]
   | succ i=>
     rw [A 0 a (by omega) rfl]
     exact ih (i:=i) (fun j s C hq=>A (j+1) s (by omega) (by simpa using hq)) (by simpa using hi) hp
theorem yR {p:eK→Bool} {l:List eK} (h:∀ j i,j < l.length→l[j]? =some i→p i=false):l.find? p=none:=by
 rw [List.find?_eq_none]
 intro q hq
 obtain ⟨j,a⟩:=List.getElem?_of_mem hq
 rw [h j q (List.getElem?_eq_some_iff.1 a).1 a]; simp
theorem GN {x:Nat} {cs:List bX} (h:cs.findIdx? (fun c=>decide (c.flag=x))=none):dK cs x=none:=by
 rw [List.findIdx?_eq_none_iff] at h
 unfold dK
 rw [List.find?_eq_none]
 intro c hc
 simpa using h c hc
theorem yK (B fb mc:Nat) (F:aI) (V:dW) (x:Nat) (w:World) (hF:cD w B fb mc F V) (aB:F.a3.length≤70000):
 aU Tryz.prog 67 (List.toArray [aH fb,aO x]) w (fun v w'=>v= .tuple #[.agg (k0 ((dK F.a3 x).getD p4)).toArray,.bool (dK F.a3 x).isSome]∧Wk w w'):=by
 obtain ⟨aa,gn,G⟩:=bW hF.dp
 have ho11:=hF.dp
 rw [G] at ho11
 have am:Hb.aE w.heap fb 11=some (.slice aa F.a3.length gn):=by rw [← G]; exact (aQ hF.cells).trans rfl
 obtain ⟨f,hf,ap⟩:=hF.cm
 obtain ⟨iv,ob,aq,av,C⟩:∃ (iv:Nat) (ob:Bool),(f (aO x)).getD (.int .i64 0)=ae iv∧(f (aO x)).isSome=ob∧((ob=false∧dK F.a3 x=none)∨(ob=true∧∃ c,F.a3[iv]? =some c∧dK F.a3 x=some c)):=by
  rw [ap x]
  cases hfi:F.a3.findIdx? (fun c=>decide (c.flag=x)) with
  | none=>exact ⟨0,false,rfl,rfl,.inl ⟨rfl,GN hfi⟩⟩
  | some i=>exact ⟨i,true,rfl,rfl,.inr ⟨rfl,GK hfi⟩⟩
 refine enter Tryz.func67 rfl Tryz.ntmps67 rfl ?_
 refine U (fun _ I=>(e (al pc fun ay w4 aA a A=>aj (((I _ _ (sq (fun _ J=>sq (fun _ M=> ?_)))))))))
 refine rg rfl (ag (aH fb) (p (g8 nO rfl rfl) (au ((M _ _ (cf (rfl) (az (tn (J _ _ ?_)))))))))
 refine U (fun _ O=>(ag (aH fb) (p (nc rfl) (p (fa zd rfl) (p (ld n9 rfl (Wk.aE a.md ((aQ hF.cells).trans rfl))) (ag (aO x) (p (Ad ea kP mL (hf.wk a.md) rfl rfl (⟨_,rfl⟩) (aq) (av)) ?_)))))))
 refine p mv (p (xt rfl rfl) (p (xt rfl rfl) (p ak (aj (((O _ _ (sq (fun _ Y=> ?_)))))))))
 refine U (fun _ Z=>(p mv (p (no rfl) (au ((Z _ _ (cb rfl (fun s=> ?_) (fun s=> ?_))))))))
 have ax:ob=false :=by simpa using s
 have ao:dK F.a3 x=none:=by rcases C with ⟨_,h⟩ | ⟨h,_⟩; exact h; rw [ax] at h; cases h
 refine U (fun _ q=>(p (bZ (ps:= []) (L:= [.int .u16 0,.int .i64 0,.bool false,.int .i64 0,.int .i64 0]) vf rfl (rfl)) (e (bY ni rfl rfl rfl rfl (A) (by simp) fun aC ah ab=>aj (((q _ _ (rt ?_))))))))
 exact tr (dP rfl (c9 (cs:=k0 p4) rfl nZ rfl (fun j ar=>ab.c8 j)) dF (⟨by rw [ao]; rfl,a.md.trans' ah (fun k hk h=>by omega)⟩))
 have hob1:ob=true :=by simpa using s
 obtain ⟨c,E,an⟩:∃ c,F.a3[iv]? =some c∧dK F.a3 x=some c:=by rcases C with ⟨h,_⟩ | ⟨_,h⟩; rw [hob1] at h; cases h; exact h
 have hivl:=(List.getElem?_eq_some_iff.1 E).1
 have ho11x:=aG ho11 a.md
 refine az (tn (Y _ _ (U (fun _ q=>(ag (aH fb) (p (nc rfl) (p (fa eA rfl) (p (fa ny rfl) ?_))))))))
 refine p (ld pG rfl (Wk.aE a.md am)) (p mv (p (aJ GC rfl rfl (by omega) (aw.ok ((aM ho11x).2) (fun h=>by have :=congrArg List.length h; rw [show (jv F.a3).length=F.a3.length*5 from kD (f:=k0) (m:=5) (fun _=>rfl) _] at this; simp at this; omega))) (p (dB nZ rfl (rfl) (eQ (f:=k0) (m:=5) (fun _=>rfl) (aM ho11x).2 E)) (e (bY ni rfl rfl rfl rfl (A) (by simp) fun wt6_8 ai ac=>aj (((q _ _ ?_))))))))
 exact rt (dP rfl (c9 (cs:=k0 c) rfl nZ rfl (fun j ar=>ac.c8 j)) dF (⟨by rw [an]; rfl,a.md.trans' ai (fun k hk h=>by omega)⟩))
theorem EB (B:Nat) (H:bO) (F:aI) (rows:List Rw) (ln:Nat) (seen:List Tx) (w:World) (a6:St w B H F rows ln seen) (hnx:∀ q∈F.rules,q.next.length≤64):
 dO Tryz.prog 35 (List.toArray [.pointer (some ⟨H.rb,0,none⟩)]) w (fun v w'=>v= .tuple #[]∧F.rules.find? (jT F)=none∧(∃ V R' ae,cD w' B H.fb H.mc F V∧bU w' B H F R' rows ae seen)∧dN B H w w') (fun c w'=> ∃ q,F.rules.find? (jT F)=some q∧c=fL 25 q.line 118∧dN B H w w'):=by
 obtain ⟨V,R,hF,ab,hB⟩:=a6
 obtain ⟨ag,gx,au⟩:=bW hF.cQ
 have ho12:=hF.cQ
 rw [au] at ho12
 have a7:Hb.aE w.heap H.fb 12=some (.slice ag F.rules.length gx):=by rw [← au]; exact (aQ hF.cells).trans rfl
 obtain ⟨vr,vs,vn⟩:=R
 obtain ⟨Y,cv,bw⟩:=bW ab.on
 obtain rfl :vn= .slice Y F.rules.length cv:=bw
 have hbl:=hB.len
 have hlo:=ab.lo
 refine gy Tryz.func35 rfl Tryz.ntmps35 rfl ?_
 refine sq (fun bA aP=>rg rfl (p (aC (.pointer (some ⟨H.rb,0,none⟩)) rfl) (p (nc rfl) (p (fa eR rfl) (p (ld ew rfl ((aQ ab.cells).trans rfl)) (p (nc rfl) (p (fa eA rfl) ?_)))))))
 refine p (fa la rfl) (p (ld mx rfl (a7)) (p (ba rH rfl rfl) (p mv (nl (tn (aP _ _ (aA (lp (fun J U wI=> ∃ (i ae:Nat),(i≤F.rules.length)∧(∀ j q,j < i→F.rules[j]? =some q→jT F q=false)∧(cD wI B H.fb H.mc F V)∧(bU wI B H F ⟨vr,vs,.slice Y F.rules.length cv⟩ rows ae seen)∧(dN B H w wI)∧(U 0= .pointer (some ⟨H.rb,0,none⟩))∧(U 15= .slice ag F.rules.length gx)∧(U 16= .int .i64 (F.rules.length:Nat))∧(U 17= .int .i64 (i:Nat))∧(F.rules.length - i=J)) _ ⟨0,ln,(by omega),((fun j q ay=>by omega)),hF,ab,(Md.refl _ _),rfl,rfl,rfl,rfl,rfl⟩ ?_))))))))
 rintro J U wI ⟨i,ae,hi,C,aa,an,hMw,bd,bh,bi,bj,rfl⟩
 refine fx 0 bd (fx 15 bh (fx 16 bi (fx 17 bj (sq (fun bE aT=>rg rfl (p (lt rfl rfl) (nl (tn (aT _ _ (sq (fun bG aU=>cd rfl (fun hc18=> ?_) (fun hc18=> ?_))))))))))))
 refine az (tn (aU _ _ (sq (fun bI aV=>aA (sq (fun bJ aW=> ?_))))))
 have ho12I:=aa.cQ
 rw [au] at ho12I
 have hil:i < F.rules.length:=by omega
 obtain ⟨vn,bv,ap⟩:=c4.get aa.nx (i:=i) (by rw [List.length_map]; exact hil)
 obtain ⟨q,s⟩:∃ q,F.rules[i]? =some q:=⟨_,List.getElem?_eq_getElem hil⟩
 have bc:(F.rules.map (·.next)).getD i []=q.next:=by rw [List.getD_eq_getElem?_getD,List.getElem?_map,s]; rfl
 rw [bc] at ap
 have hqnl:=hnx q (List.mem_of_getElem? s)
 obtain ⟨ah,ai,rfl⟩:=ap.slice
 have aB:(F.rules.zip V.rn)[i]? =some (q,.slice ah q.next.length ai):=by rw [List.getElem?_zip_eq_some]; exact ⟨s,bv⟩
 have aD:(fZ (F.rules.zip V.rn)).length=(F.rules.zip V.rn).length*7:=kD (f:=iz) (m:=7) (fun _=>rfl) _
 have bb:(F.rules.map fun r=>Value.int .i64 (r.line:Nat))[i]? =some (.int .i64 (q.line:Nat)):=by rw [List.getElem?_map,s]; rfl
 refine rg rfl (p (aC (.int .i64 (i:Nat)) rfl) (p (aJ s9 rfl rfl (by omega) (aw.ok ((aM ho12I).2) (fun h=>by rw [h] at aD; have h2:0=(F.rules.zip V.rn).length*7:=aD; have h3:=(List.getElem?_eq_some_iff.1 aB).1; omega))) ?_))
 refine p (dB rW rfl (rfl) (eQ (f:=iz) (m:=7) (fun _=>rfl) (aM ho12I).2 aB)) (e (al vF fun bR w3 bV ax aK=> ?_))
 skip
 refine p (bF (.int .i64 (i:Nat)) rfl) (e (bY sQ rfl rfl rfl rfl (aK) (by simp) fun wt2_5 a1 aH=> ?_))
 have Z:Wk wI wt2_5:=ax.md.trans' a1 (fun k hk h=>by omega)
 have hF3:=aa.wk Z
 have hR3:=an.wk Z
 have hz3:=ax.size
 have hlr:=(Array.getElem?_eq_some_iff.1 an.cells).1
 refine nl (tn (aW _ _ (sq (fun bK aX=>rg rfl (p (aC (.pointer (some ⟨H.rb,0,none⟩)) rfl) (p (aC (.pointer (some ⟨H.rb,0,none⟩)) rfl) (p (nc rfl) (p (fa tF rfl) ?_))))))))
 refine p (ld m8 rfl ((aQ hR3.cells).trans rfl)) (p (aC (.int .i64 (i:Nat)) rfl) (p (aJ jY rfl rfl (by omega) (aw.ok ((aM hR3.on).2) (by simp; intro h; rw [h] at s; simp at s))) (p (ld bT rfl (aw.gv (aM hR3.on).2 bb)) (p (nc rfl) (p (fa oF rfl) (e (cj fV rfl rfl (v:= .int .i64 (q.line:Nat)) rfl hR3.cells (by show _ < 7; decide) fun w9 hM9 aN=> ?_)))))))
 have hR9:=hR3.cW (R':=⟨vr,vs,.slice Y F.rules.length cv⟩) (ln':=q.line) hM9 aN rfl hR3.rws hR3.rt
 have hF9:=hF3.rb hR3 hM9
 have hb9:=hM9.B aH (fun h=>by omega)
 have hT9:=(ap.wk Z).md hM9 (dM hR3.cells (by decide))
 have hMw9:=(hMw.trans (Wk.mw Z)).trans (dN.rb hR3 hM9)
 refine nl (tn (aX _ _ (sq (fun bN aY=>rg rfl (p (fa qy rfl) (p (ld kW rfl ((hb9.aE 6).trans rfl)) (p (ba js rfl rfl) (p mv ?_))))))))
 refine nl (tn (aY _ _ (aA (lp (fun J E I=> ∃ (j:Nat),(j≤q.next.length)∧(∀ O,O < j→jk F (q.next.getD O 0)=true)∧(cD I B H.fb H.mc F V)∧(bU I B H F ⟨vr,vs,.slice Y F.rules.length cv⟩ rows q.line seen)∧(dN B H w I)∧(Tg I B 71 q.next.length (.slice ah q.next.length ai) (q.next.map aO))∧(E 0= .pointer (some ⟨H.rb,0,none⟩))∧(E 15= .slice ag F.rules.length gx)∧(E 16= .int .i64 (F.rules.length:Nat))∧(E 17= .int .i64 (i:Nat))∧(E 33= .slice ah q.next.length ai)∧(E 34= .int .i64 (q.next.length:Nat))∧(E 35= .int .i64 (j:Nat))∧(q.next.length - j=J)) _ ⟨0,(by omega),((fun O a9=>by omega)),hF9,hR9,hMw9,hT9,rfl,rfl,rfl,rfl,rfl,rfl,rfl,rfl⟩ ?_))))
 rintro J E I ⟨j,ay,aq,aj,ao,av,hTJ,bk,bo,bq,br,bs,bt,bu,rfl⟩
 refine fx 0 bk (fx 15 bo (fx 16 bq (fx 17 br (fx 33 bs (fx 34 bt (fx 35 bu (sq (fun bP aZ=>rg rfl (p (lt rfl rfl) (nl (tn (aZ _ _ (sq (fun bQ a0=>cd rfl (fun a8=> ?_) (fun a8=> ?_)))))))))))))))
 refine az (tn (a0 _ _ (sq (fun bB am=>aA (sq (fun bC aR=> ?_))))))
 have bx:(q.next.map aO)[j]? =some (aO (q.next.getD j 0)):=by rw [List.getElem?_map,List.getD_eq_getElem?_getD,List.getElem?_eq_getElem (by omega :j < q.next.length)]; rfl
 refine rg rfl (p (aJ bl rfl rfl (by omega) (aw.ok (hTJ.bH.2) (bp (by omega)))) (p (ld bL rfl (aw.gv hTJ.bH.2 bx)) (p ak (nl (tn (aR _ _ (sq (fun bD aS=>rg rfl ?_))))))))
 refine p (aC (.pointer (some ⟨H.rb,0,none⟩)) rfl) (p (nc rfl) (p (fa eR rfl) (p (ld ew rfl ((aQ ao.cells).trans rfl)) (p mv (e (cl xH (yK B H.fb H.mc F V (q.next.getD j 0) _ aj (by omega)) rfl fun bX w45 a4=> ?_))))))
 obtain ⟨rfl,hE45⟩:=a4
 have hz45:=hE45.size
 refine p mv (p (xt rfl rfl) (p (xt rfl rfl) (e (al pc fun bS w6 hb6 a3 hB6=>e (bY ni rfl rfl rfl rfl (hB6) (by simp) fun wt7_10 a2 aL=> ?_)))))
 have hE7:Wk I wt7_10:=(hE45.trans a3.md).trans' a2 (fun k hk h=>by omega)
 have hF7:=aj.wk hE7
 have hR7:=ao.wk hE7
 have hMw7:=av.trans (Wk.mw hE7)
 refine p ak (nl (tn (aS _ _ (rg rfl (p (aC (.pointer (some ⟨H.rb,0,none⟩)) rfl) (p mv (p (aC (.pointer (some ⟨H.rb,0,none⟩)) rfl) (p (nc rfl) ?_))))))))
 refine p (fa eR rfl) (p (ld ew rfl ((aQ hR7.cells).trans rfl)) (p (nc rfl) (p (fa eA rfl) (p (fa zc rfl) (p (iw r7 rfl rfl (by omega)) (p (ld bL rfl ((aQ hF7.cells).trans rfl)) (p (bf rfl rfl) ?_)))))))
 refine p mv (gs (t:=60) rfl (fun G=> ?_) (fun G=> ?_))
 refine sk rfl rfl rfl rfl (sk rfl rfl rfl rfl (eu rfl rfl rfl (eu rfl rfl rfl (eu rfl rfl rfl (sk rfl rfl rfl rfl (p (bg rfl) ?_))))))
 refine eP rfl (cz eZ (e9 H.rb q.line _ 118 wt7_10 hR7.bM (by decide)) rfl fun aF w68 M=> ?_) (fun c w' a aG hF=>by
  first
   | exact absurd a.2.1 (by decide)
   | exact ⟨q,lW C s (lQ (j:=j) (by omega) (qX (fun h=>G (by rw [h])) A (by have :=of_decide_eq_false a.2.1; omega))),a.1,by rw [a.2.2]; exact hMw7⟩
   | exact ⟨q,lW C s (lQ (j:=j) (by omega) (qY (fun h=>G (by rw [h])) (by simpa using A))),a.1,by rw [a.2.2]; exact hMw7⟩)
 obtain ⟨rfl,ac,rfl⟩:=M
 refine nl (bn (tn (am _ _ (rg rfl (p (ad rfl rfl (bm (by omega))) (p mv (nl (tn ?_))))))))
 exact ⟨_,by omega,j+1,(by omega),((fun k hk=>by rcases Nat.lt_or_ge k j with h | h <;> first | exact aq k h | (rw [show k=j by omega]; exact Az (by omega)))),hF7,hR7,hMw7,(hTJ.wk hE7),rfl,rfl,rfl,rfl,rfl,rfl,rfl,rfl⟩
 refine pg rfl rfl rfl mv (pg rfl rfl rfl mv (gb (t:=62) rfl (fun A=> ?_) (fun A=> ?_)))
 refine pg rfl rfl rfl (fa qz rfl) (pg rfl rfl rfl (ld bT rfl ((aL.aE 1).trans rfl)) (pg rfl rfl rfl (bf rfl rfl) (pg rfl rfl rfl (bg rfl) (p (a5 rfl) ?_))))
 refine eP rfl (cz eZ (e9 H.rb q.line _ 118 wt7_10 hR7.bM (by decide)) rfl fun aF w68 M=> ?_) (fun c w' a aG hF=>by
  first
   | exact absurd a.2.1 (by decide)
   | exact ⟨q,lW C s (lQ (j:=j) (by omega) (qX (fun h=>G (by rw [h])) A (by have :=of_decide_eq_false a.2.1; omega))),a.1,by rw [a.2.2]; exact hMw7⟩
   | exact ⟨q,lW C s (lQ (j:=j) (by omega) (qY (fun h=>G (by rw [h])) (by simpa using A))),a.1,by rw [a.2.2]; exact hMw7⟩)
 obtain ⟨rfl,ac,rfl⟩:=M
 refine nl (bn (tn (am _ _ (rg rfl (p (ad rfl rfl (bm (by omega))) (p mv (nl (tn ?_))))))))
 exact ⟨_,by omega,j+1,(by omega),((fun k hk=>by rcases Nat.lt_or_ge k j with h | h <;> first | exact aq k h | (rw [show k=j by omega]; exact AA A (by have :=of_decide_eq_true ac; omega)))),hF7,hR7,hMw7,(hTJ.wk hE7),rfl,rfl,rfl,rfl,rfl,rfl,rfl,rfl⟩
 refine sk rfl rfl rfl rfl (sk rfl rfl rfl rfl (sk rfl rfl rfl rfl (pg rfl rfl rfl (a5 rfl) (p (a5 rfl) ?_))))
 refine eP rfl (cz eZ (e9 H.rb q.line _ 118 wt7_10 hR7.bM (by decide)) rfl fun aF w68 M=> ?_) (fun c w' a aG hF=>by
  first
   | exact absurd a.2.1 (by decide)
   | exact ⟨q,lW C s (lQ (j:=j) (by omega) (qX (fun h=>G (by rw [h])) A (by have :=of_decide_eq_false a.2.1; omega))),a.1,by rw [a.2.2]; exact hMw7⟩
   | exact ⟨q,lW C s (lQ (j:=j) (by omega) (qY (fun h=>G (by rw [h])) (by simpa using A))),a.1,by rw [a.2.2]; exact hMw7⟩)
 obtain ⟨rfl,ac,rfl⟩:=M
 refine nl (bn (tn (am _ _ (rg rfl (p (ad rfl rfl (bm (by omega))) (p mv (nl (tn ?_))))))))
 exact absurd ac (by decide)
 refine ext (te _ (te _ (be (bn (tn (aV _ _ (rg rfl (p (ad rfl rfl (bm (by omega))) ?_))))))))
 exact p mv (nl (tn (⟨_,by omega,i+1,q.line,(by omega),((fun k bz hk ar=>by rcases Nat.lt_or_ge k i with h | h <;> first | exact C k bz h ar | (rw [show k=i by omega,s] at ar; cases ar; exact wO (fun O a9=>aq O (by omega))))),aj,ao,av,rfl,rfl,rfl,rfl,rfl⟩)))
 refine ext (te _ (te _ (be (gh ?_))))
 refine f0 rfl ?_
 exact ⟨rfl,yR (fun j q ay hq=>C j q (by omega) hq),⟨V,_,_,aa,an⟩,hMw⟩
end Go.Hb.kQ
end
section
set_option maxRecDepth 20000
set_option maxHeartbeats 1000000
namespace Go.Hb.vH
open Go.Hb.di
open Go.Proofs
open Go.Hb.eX
theorem Kl (s A:Nat) (w:World):
 CallsD Tryz.prog 31 (List.toArray [.pointer (some ⟨s,0,none⟩),.pointer (some ⟨A,0,none⟩)]) .returning w (fun a u1 w'=> ∃ v,a= .returned v∧u1= .returning∧(fun w'=>Wk w w') w'):=by
 refine xP (v:= .nilIface) Tryz.func31 rfl Tryz.ntmps31 rfl (fun c₀ cs hc=> .inr ⟨by simp [recoverD,hc],rfl,rfl⟩) ?_
 refine p (LG uj MG rfl) (p mv (p (xt rfl rfl) (p (xt rfl rfl) (e (al iU fun E I hb2 q hB2=>e (bY fU rfl rfl rfl rfl (hB2) (by simp) fun J j G=>p ak (nl ?_)))))))
 refine tn (sq (fun C i=>rg rfl (p mv (nl (tn (i _ _ (cf (rfl) (az ?_))))))))
 refine f0 rfl ?_
 exact q.md.trans' j (fun k hk h=>by omega)
theorem Kk (a i:Nat) (ln:Nat) (er:Int) (w:World) (h2:∃ v:Value,w.heap[a]? =some (.cells [v].toArray 22 (0,0))) (h3:∃ L:List Value,L.length=3∧w.heap[i]? =some (.cells L.toArray 25 (0,0))) (hne:a≠i):
 CallsD Tryz.prog 31 (List.toArray [.pointer (some ⟨a,0,none⟩),.pointer (some ⟨i,0,none⟩)]) (.panicking (fL 25 ln er)) w (fun O u1 w'=> ∃ v,O= .returned v∧u1=(.panicking [{v:= .iface 25 (.agg [.int .i64 1,.int .i64 (ln:Nat),.int .i64 er].toArray),recovered:=true}])∧(fun w'=>w'.heap[a]? =some (.cells [.pointer none].toArray 22 (0,0))∧w'.heap[i]? =some (.cells [.int .i64 1,.int .i64 (ln:Nat),.int .i64 er].toArray 25 (0,0))∧Md (fun k=>k=a∨k=i) w w') w'):=by
 obtain ⟨v2,h2⟩:=h2
 obtain ⟨I,aa,h3⟩:=h3
 have hl2:=(Array.getElem?_eq_some_iff.1 h2).1
 have hl3:=(Array.getElem?_eq_some_iff.1 h3).1
 refine xP (v:= .iface 25 (.agg [.int .i64 1,.int .i64 (ln:Nat),.int .i64 er].toArray)) Tryz.func31 rfl Tryz.ntmps31 rfl (fun c₀ cs hc=> .inl (by simp [recoverD,hc,fL])) ?_
 refine p (LF uj rfl) (p mv (p (xt rfl rfl) (p (xt rfl rfl) (e (al iU fun M ai hb2 E hB2=>e (bY fU rfl rfl rfl rfl (hB2) (by simp) fun q s U=> ?_))))))
 have Y:bG q.heap M [.int .i64 1,.int .i64 (ln:Nat),.int .i64 er]:=U
 refine p ak (nl (tn (sq (fun ag Z=>rg rfl (p mv (nl (tn (Z _ _ ?_))))))))
 refine ct (rfl) ?_
 have G:(fun w'=>Md (fun k=>k=a∨k=i) q w') q.drew:=(Md.refl _ _).drew
 refine bD (fun w'=>Md (fun k=>k=a∨k=i) q w') rfl wide G (hp 0 rfl (by kernel_rfl) (fun w' ab=>dB jd rfl (rfl) (fun j ah=>bG.c8 (Md.B ab Y (fun h=>by omega)) j)) G (he 1 rfl (by kernel_rfl) (cj sR rfl rfl (v:= .pointer none) rfl (s.aA (Wk.aA E.md h2) (fun h=>by omega)) (by show 0 < 1; decide) fun w5 A V=> ?_)))
 have J:(fun w'=>Md (fun k=>k=a∨k=i) q w') w5:=G.trans' A (fun _ _ h=> .inl h)
 refine ⟨J,?_⟩
 refine he 2 rfl (by kernel_rfl) (gj fU rfl rfl rfl rfl (A.aA (s.aA (Wk.aA E.md h3) (fun h=>by omega)) (fun h=>hne h.symm)) (by rw [aa]; decide) fun w6 C hB6=> ?_)
 have ac:(fun w'=>Md (fun k=>k=a∨k=i) q w') w6:=J.trans' C (fun _ _ h=> .inr h)
 refine ⟨ac,?_⟩
 refine hn (by kernel_rfl) (f0 rfl ?_)
 have ae:I.take 0 ++ [Value.int .i64 1,.int .i64 (ln:Nat),.int .i64 er]++I.drop (0 +3)= [Value.int .i64 1,.int .i64 (ln:Nat),.int .i64 er]:=by rw [List.drop_eq_nil_of_le (by omega)]; rfl
 rw [ae] at hB6
 exact ⟨C.aA V hne,hB6,(((E.md.mono fun _ _ h=>h.elim).trans' s (fun k hk h=>by omega)).trans' (ff A) (fun _ _ h=> .inl h)).trans' C (fun _ _ h=> .inr h)⟩
theorem AR (a i:Nat) (w:World):(invoke (.fn (.func 31) #[aH a,aH i]) #[]).run Tryz.prog w= .ok (.enter 31 #[aH a,aH i]) w:=by
 have h:=DY #[aH a,aH i] w
 simp [invoke,h]
theorem qk {n:Nat} {D:List Deferred} {G:List Nat} {σ:Nat→Value} {t:Nat} (h:t < n):ev ⟨n,D,G,none⟩ σ (.tmp t)=σ t:=by
 show cond (Nat.blt t n) (σ t) undef=_
 rw [show Nat.blt t n=true from by simpa using h]; rfl
theorem Ko {n:Nat} {G:List Nat} {fn:Func} {R:Value→World→Prop} {σ:Nat→Value} {w:World} {a i ln:Nat} {er:Int} (q:fn.results= #[.cell 2 22,.cell 3 25]) (hlt:3 < n) (s:σ 2= .pointer (some ⟨a,0,none⟩)) (A:σ 3= .pointer (some ⟨i,0,none⟩)) (h2:∃ v:Value,w.heap[a]? =some (.cells [v].toArray 22 (0,0))) (h3:∃ L:List Value,L.length=3∧w.heap[i]? =some (.cells L.toArray 25 (0,0))) (hne:a≠i)
 (p:∀ w',Md (fun k=>k=a∨k=i) w w'→R (.tuple #[.pointer none,.agg [.int .i64 1,.int .i64 (ln:Nat),.int .i64 er].toArray]) w'):qb ⟨n,[{target:= .fn (.func 31) #[.pointer (some ⟨a,0,none⟩),.pointer (some ⟨i,0,none⟩)],args:= #[]}],G,none⟩ (lG Tryz.prog fn R) (.panic (fL 25 ln er)) σ w:=by
 refine GH (AR a i w) (Kk a i ln er w h2 h3 hne) ?_
 rintro w' ⟨hc2,hc3,hm⟩
 exact ⟨_,q8 q (jJ (uT ((qk (by omega)).trans s) ew ((aQ hc2).trans rfl))) (jJ (c9 (cs:= [.int .i64 1,.int .i64 (ln:Nat),.int .i64 er]) ((qk (by omega)).trans A) jd rfl (fun j _=>by rw [Nat.zero_add,aQ hc3]; simp))),p w' hm⟩
theorem Kp {n:Nat} {G:List Nat} {fn:Func} {R:Value→World→Prop} {σ:Nat→Value} {w:World} {a i:Nat} {v:Value} {L:List Value} (s:fn.results= #[.cell 2 22,.cell 3 25]) (hlt:3 < n) (A:σ 2= .pointer (some ⟨a,0,none⟩)) (C:σ 3= .pointer (some ⟨i,0,none⟩)) (h2:w.heap[a]? =some (.cells [v].toArray 22 (0,0))) (h3:w.heap[i]? =some (.cells L.toArray 25 (0,0))) (p:L.length=3)
 (q:∀ w',Wk w w'→R (.tuple #[v,.agg L.toArray]) w'):qb ⟨n,[{target:= .fn (.func 31) #[.pointer (some ⟨a,0,none⟩),.pointer (some ⟨i,0,none⟩)],args:= #[]}],G,none⟩ (lG Tryz.prog fn R) .ret σ w:=by
 refine GG (AR a i w) (Kl a i w) ?_
 intro w' hm
 have hc2:=Wk.aA hm h2
 have hc3:=Wk.aA hm h3
 exact ⟨_,q8 s (jJ (uT ((qk (by omega)).trans A) ew ((aQ hc2).trans rfl))) (jJ (c9 (cs:=L) ((qk (by omega)).trans C) jd p (fun j _=>by rw [Nat.zero_add,aQ hc3]; simp))),q w' hm⟩
end Go.Hb.vH
end
