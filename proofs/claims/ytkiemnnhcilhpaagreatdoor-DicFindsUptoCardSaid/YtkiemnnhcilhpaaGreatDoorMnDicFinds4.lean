/-
  Walks and plain laws that the law rests on, laid together. No conditions but those that each theorem names.
-/
import Derived.Test.YtkiemnnhcilhpaaGreatDoorMnDicFinds3
set_option linter.unusedVariables false
section
set_option maxRecDepth 20000
set_option maxHeartbeats 1000000
namespace Go.Hb.iQ
open Go.Hb.di
open Go.Proofs
open Go.Hb.eS Go.Hb.fE Go.Hb.kg Go.Hb.gA Go.Hb.lz Go.Hb.gW Go.Hb.gl Go.Hb.fQ
theorem ze {kind:Nat} {s:Tx} (h:(eB kind s).2=0):(eB kind s).1≠0:=by
 unfold eB at h ⊢
 split
 · rename_i h0; rw [if_pos h0] at h; cases h
 · rename_i h0; exact h0
theorem zl {F:aH} {s:Tx} (h:(eB F.kind s).2≠0):eC F s= .error (eB F.kind s).2:=if_pos h
theorem zm {F:aH} {s:Tx} (h:(eB F.kind s).2=0) (h1:dw F (eB F.kind s).1=true):eC F s= .error 115:=by unfold eC; rw [if_neg (fun h2=>h2 h),if_pos h1]
theorem zn {F:aH} {s:Tx} (h:(eB F.kind s).2=0) (h1:dw F (eB F.kind s).1=false):eC F s= .ok (eB F.kind s).1:=by unfold eC; rw [if_neg (fun h2=>h2 h),if_neg (by rw [h1]; exact Bool.noConfusion)]
theorem Bu {F:aH} {rows:List Rw} {ln e:Nat} {r:List Tx} (h:eC F (r.getD 1 [])= .error e):gK F rows ln r= .error (ln,e):=by unfold gK; rw [h]
theorem Bv {F:aH} {rows:List Rw} {ln x:Nat} {r:List Tx} (h:eC F (r.getD 1 [])= .ok x):gK F rows ln r= .ok ({F with sp:=F.sp.set (cJ.idxOf (r.getD 0 [])) x},rows):=by unfold gK; rw [h]
def hU:List Tx:= [gv,gF,gP,g6,im,db,dP,bO]
theorem uv (hs:List Tx):ordered hs=true↔∀ k∈hU,k∉hs:=by
 unfold ordered
 rw [Bool.not_eq_true',List.any_eq_false]
 have hm:∀ k,k∈hU↔(k∈cJ∨k=db∨k=dP∨k=bO):=by
  intro k
  simp only [hU,cJ,List.mem_cons,List.not_mem_nil,or_false,or_assoc]
 constructor
 · intro h k hk a
   have :=h k a
   rw [decide_eq_true_iff] at this
   exact this ((hm k).1 hk)
 · intro h x i hd
   rw [decide_eq_true_iff] at hd
   exact h x ((hm x).2 hd) i
theorem Bc {F:aH} {rows:List Rw} {ln:Nat} {r:List Tx} (h:eh (r.getD 1 [])=false):jH F rows ln r= .error (ln,21):=if_pos h
theorem Be {F:aH} {rows:List Rw} {ln:Nat} {r:List Tx} (h:eh (r.getD 1 [])=true):jH F rows ln r= .ok ({F with mx:=r.getD 1 []},rows):=if_neg (by rw [h]; exact Bool.noConfusion)
theorem BL {F:aH} {rows:List Rw} {ln:Nat} {r:List Tx} (h:(letE (r.getD 1 [])).2≠0):jM F rows ln r= .error (ln,(letE (r.getD 1 [])).2):=if_pos h
theorem BM {F:aH} {rows:List Rw} {ln:Nat} {r:List Tx} (h:(letE (r.getD 1 [])).2=0):jM F rows ln r= .ok ({F with tr:=(letE (r.getD 1 [])).1},rows):=if_neg (fun h2=>h2 h)
theorem Ai {F:aH} {rows:List Rw} {ln e:Nat} {r:List Tx} (h:dy (r.getD 1 []) 64= .error e):g8 F rows ln r= .error (ln,e):=by unfold g8; rw [h]
theorem Aj {F:aH} {rows:List Rw} {ln n:Nat} {r:List Tx} (h:dy (r.getD 1 []) 64= .ok n) (h0:n=0):g8 F rows ln r= .error (ln,13):=by unfold g8; rw [h]; exact if_pos h0
theorem Ak {F:aH} {rows:List Rw} {ln n:Nat} {r:List Tx} (h:dy (r.getD 1 []) 64= .ok n) (h0:n≠0):g8 F rows ln r= .ok ({F with least:=n},rows):=by unfold g8; rw [h]; exact if_neg h0
theorem ot {F:aH} {seen:List Tx} {rows:List Rw} {ln:Nat} {r:List Tx} {k:Tx} (hk:k∈hU) (h:k∈seen):gQ F seen rows ln r= .error (ln,113):=by
 unfold gQ
 rw [if_pos]
 cases ho:ordered seen with
 | false =>rfl
 | true =>exact absurd h ((uv seen).1 ho k hk)
theorem z0 {F:aH} {seen:List Tx} {rows:List Rw} {ln:Nat} {r:List Tx} (h:ordered seen=true) (h0:fS (r.getD 1 [])=0):gQ F seen rows ln r= .error (ln,114):=by unfold gQ; rw [if_neg (by rw [h]; exact Bool.noConfusion),if_pos h0]
theorem qK {F:aH} {seen:List Tx} {rows:List Rw} {ln:Nat} {r:List Tx} (h:ordered seen=true) (h0:fS (r.getD 1 [])≠0):gQ F seen rows ln r= .ok ({F with kind:=fS (r.getD 1 [])},rows):=by unfold gQ; rw [if_neg (by rw [h]; exact Bool.noConfusion),if_neg h0]
def kinds:List Tx:= [mH,nm,ou]
theorem Ix (s:Tx):((if s∈kinds then (kinds.idxOf s:Nat) else -1:Int))=(fS s:Nat) - 1:=by
 unfold fS kinds
 by_cases h1:s=mH
 · subst h1; decide
 · by_cases h2:s=nm
   · subst h2; decide
   · by_cases h3:s=ou
     · subst h3; decide
     · rw [if_neg (by simp [h1,h2,h3]),if_neg h1,if_neg h2,if_neg h3]; rfl
theorem Iy (s:Tx):fS s≤3:=by
 unfold fS
 split
 · omega
 · split
   · omega
   · split <;> omega
theorem tE (B:Nat) (H:bM) (F:aH) (V:dV) (R:eF) (rows:List Rw) (ln:Nat) (seen:List Tx) (s:Tx) (w:World) (hF:cC w B H.fb H.mc F V) (i:bS w B H F R rows ln seen) (hk:F.kind=1∨F.kind=2∨F.kind=3) (hs:s.length≤1048576):
 dN Tryz.prog 96 (List.toArray [.pointer (some ⟨H.rb,0,none⟩),str s]) w (fun v w'=> ∃ x,eC F s= .ok x∧x≠0∧v=aM x∧dw F x=false∧Wk w w') (fun c w'=> ∃ e,eC F s= .error e∧c=fJ 25 ln (e:Nat)∧Wk w w'):=by
 obtain ⟨ai,U,Y⟩:=i.tm
 refine gr Tryz.func96 rfl Tryz.ntmps96 rfl ?_
 refine sq (fun ab A=>rg rfl (p aj (nl (tn (A _ _ (sq (fun ac C=>rg rfl (p (aB (.pointer (some ⟨H.rb,0,none⟩)) rfl) ?_))))))))
 refine p (nc rfl) (p (fa eL rfl) (p (ld eo rfl ((aO i.cells).trans rfl)) (p (nc rfl) (p (fa et rfl) (p (fa ng rfl) (p (ld bQ rfl ((aO hF.cells).trans rfl)) (p (aB (str s) rfl) ?_)))))))
 refine e (cl Dg (Jx F.kind s _ hk hs) rfl fun ak w17 J=> ?_)
 obtain ⟨rfl,hE17⟩:=J
 refine p mv (p (xt rfl rfl) (p (xt rfl rfl) (p aj (p aj (nl (tn (C _ _ (sq (fun ae E=> ?_)))))))))
 refine rg rfl (p (aB (.pointer (some ⟨H.rb,0,none⟩)) rfl) (p mv (eP rfl (cj gZ (ku H.rb ln ((eB F.kind s).2:Nat) w17 (Wk.aC hE17 i.bK)) rfl fun al Z M=> ?_) (fun c w' a aa hF=>⟨_,zl (by have :=a.2.1; omega),a.1,by rw [a.2.2]; exact hE17⟩))))
 obtain ⟨rfl,q,rfl⟩:=M
 have q:(eB F.kind s).2=0:=by omega
 have hx0:=ze q
 refine nl (tn (E _ _ (sq (fun ag G=>rg rfl (p (aB (.pointer (some ⟨H.rb,0,none⟩)) rfl) (p (aB (.pointer (some ⟨H.rb,0,none⟩)) rfl) (p (nc rfl) (p (fa tB rfl) ?_))))))))
 refine p (ld nU rfl (Wk.aC hE17 ((aO i.cells).trans rfl))) (p mv (p (j0 dY kJ mG (U.wk hE17) rfl rfl (⟨_,rfl⟩) (Y _ hx0)) (p (a8 rfl rfl) (eP rfl (cj eT (e4 H.rb ln _ 115 Z (Wk.aC hE17 i.bK) (by decide)) rfl fun am w31 O=> ?_) (fun c w' a aa hF=>⟨115,zm q (by have h:=a.2.1; rw [yd] at h; simpa using h),a.1,by rw [a.2.2]; exact hE17⟩)))))
 obtain ⟨rfl,j,rfl⟩:=O
 rw [yd] at j
 have j:dw F (eB F.kind s).1=false :=by simpa using j
 refine nl (tn (G _ _ (sq (fun ah I=>rg rfl (p mv (p aj (nl (tn (I _ _ ?_)))))))))
 refine rt (fY ?_)
 exact f1 rfl rfl (⟨_,zn q j,hx0,rfl,j,hE17⟩)
theorem oP (B:Nat) (H:bM) (F:aH) (rows:List Rw) (ln:Nat) (seen:List Tx) (r:List Tx) (ah:Nat) (A:Option Addr) (E:Nat) (w:World) (C:St w B H F rows ln seen) (hT:Tg w ah 9 r.length (.slice A r.length E) (r.map str)) (hr:r.length=2) (hrl:∀ x∈r,x.length≤70000) (hsp:r.getD 0 []∈cJ) (au:F.sp.getD (cJ.idxOf (r.getD 0 [])) 0=0):
 dN Tryz.prog 61 (List.toArray [.pointer (some ⟨H.rb,0,none⟩),.slice A r.length E]) w (fP B H seen (gK F rows ln r) w) (fO B H (gK F rows ln r) w):=by
 obtain ⟨V,R,hF,q,hB⟩:=C
 have hTs:=hT.bH
 have aa:¬(H.rb=H.fb):=fun h=>by have h1:=q.cells; rw [h,hF.cells] at h1; cases h1
 have hr1:(r.getD 1 []).length≤70000:=hrl _ (c6 (by omega))
 have ab:¬(bk A=H.fb):=Tg.oA hT (bl (by omega)) hF.cells (by decide)
 obtain ⟨aF,O,ac⟩:=q.tm
 obtain ⟨aE,aA,aD⟩:=q.sm
 have hix:cJ.idxOf (r.getD 0 []) < 5:=List.idxOf_lt_length_iff.2 hsp
 refine gr Tryz.func61 rfl Tryz.ntmps61 rfl ?_
 refine sq (fun aw am=>rg rfl (p (aB (.pointer (some ⟨H.rb,0,none⟩)) rfl) (p (aB (.slice A r.length E) rfl) (p (aJ bA rfl rfl (by omega) (ak.ok (hTs.2) (bl (by omega)))) (p (ld bw rfl (bh.get (i:=1) hTs.2 (by omega))) (eP rfl (cj sF (tE B H F V R rows ln seen (r.getD 1 []) w hF q hB.kd (by omega)) rfl fun v9 w9 hR9=> ?_) (fun c w' ao aI hF=>by obtain ⟨e,he,h,h2⟩:=ao; exact ⟨ln,e,Bu he,h,Wk.mw h2⟩)))))))
 obtain ⟨x,av,hx0,rfl,ag,j⟩:=hR9
 have hF9:=hF.wk j
 have hR9:=q.wk j
 refine p aj (nl (tn (am _ _ (sq (fun ax an=>rg rfl (p (aB (.pointer (some ⟨H.rb,0,none⟩)) rfl) (p (nc rfl) (p (fa tB rfl) ?_))))))))
 refine p (ld nU rfl (Wk.aC j ((aO q.cells).trans rfl))) (p mv (p (j0 dY kJ mG (O.wk j) rfl rfl (⟨_,rfl⟩) (show _=Value.int .i64 0 from (ac x hx0).trans (by rw [ag]; rfl))) (p (a9 ((1:Nat):Int) rfl rfl (aQ (by omega) (by omega))) (e (nH dY mG (O.wk j) rfl rfl rfl (⟨_,rfl⟩) fun s G ap=> ?_)))))
 have hR1:=hR9.oz (F':= {F with sp:=F.sp.set (cJ.idxOf (r.getD 0 [])) x}) G ap rfl (BI ag ac (FR (by rw [hF.ee]; exact hix) au))
 have hF1:=hF9.oz hR9 G
 have hT1:=(hT.wk j).md G (fun k hk cur z hg=>by subst hk; exact (O.wk j).k6 hg)
 have hT1s:=hT1.bH
 refine nl (tn (an _ _ ?_))
 have a:(fun w'=>Md (fun k=>k=H.fb) s w') s.drew:=(Md.refl _ _).drew
 refine bC (fun w'=>Md (fun k=>k=H.fb) s w') rfl wide a (hp 0 rfl (by kernel_rfl) (fun _ _=>aB (.pointer (some ⟨H.rb,0,none⟩)) rfl) a (hp 1 rfl (by kernel_rfl) (fun _ _=>nc rfl) a (hp 2 rfl (by kernel_rfl) (fun _ _=>fa eL rfl) a (hp 3 rfl (by kernel_rfl) (fun w' C=>ld eo rfl (Md.aC C ((aO hR1.cells).trans rfl) (by first | exact aa | exact ab))) a (hp 5 rfl (by kernel_rfl) (fun _ _=>aB (.slice A r.length E) rfl) a (hp 6 rfl (by kernel_rfl) (fun _ _=>aJ bA rfl rfl (by omega) (ak.ok (hT1s.2) (bl (by omega)))) a (hp 7 rfl (by kernel_rfl) (fun w' C=>ld bw rfl (Md.aC C (bh.get (i:=0) hT1s.2 (by omega)) (by first | exact aa | exact ab))) a ?_)))))))
 refine hp 9 rfl (by kernel_rfl) (fun _ _=>mv) a (hp 10 rfl (by kernel_rfl) (fun _ _=>nc rfl) a (hp 11 rfl (by kernel_rfl) (fun _ _=>fa et rfl) a (hp 12 rfl (by kernel_rfl) (fun _ _=>fa za rfl) a (he 4 rfl (by kernel_rfl) (m4 (L:=cJ.map str) dU rfl rfl rfl rfl fun U w21 ay J ai=> ?_)))))
 have hS21:bh w21.heap (some ⟨U,0,none⟩) cJ:=ak.cQ ⟨_,ai⟩
 have hE21:=e6 J.md
 have Z:(fun w'=>Md (fun k=>k=H.fb) s w') w21:=a.trans' J.md (fun _ _ h=>h.elim)
 refine ⟨Z,?_⟩
 refine he 8 rfl (by kernel_rfl) (cl pP (zS cJ (some ⟨U,0,none⟩) 5 (r.getD 0 []) _ hS21 (by decide)) rfl fun aG w25 aq=> ?_)
 obtain ⟨ae,rfl⟩:=aq
 rw [if_pos hsp] at ae
 subst ae
 have M:(fun w'=>Md (fun k=>k=H.fb) s w') w25:=Z
 refine ⟨M,?_⟩
 refine hp 13 rfl (by kernel_rfl) (fun _ _=>il r4 rfl rfl (by omega)) M (he 14 rfl (by kernel_rfl) (ca eb rfl rfl (v:=aM x) rfl (J.md.az hF1.cells) (by show _ < 14; omega) fun w7 I Y=> ?_))
 rw [GJ (i:=cJ.idxOf (r.getD 0 [])) hF.ee hix (by omega)] at Y
 have ar:(fun w'=>Md (fun k=>k=H.fb) s w') w7:=M.trans' I (fun _ _ h=>h)
 refine ⟨ar,?_⟩
 refine hn (by kernel_rfl) (fY ?_)
 refine f0 rfl ?_
 have hF2:=(hF1.wk hE21).put (F':= {F with sp:=F.sp.set (cJ.idxOf (r.getD 0 [])) x}) I Y rfl rfl rfl rfl (by rw [List.length_set]; exact hF.ee)
 exact ⟨rfl,_,rows,ln,Bv av,⟨V,R,hF2,(hR1.wk hE21).fb (hF1.wk hE21) I,⟨hB.len,hB.sl,hB.row,hB.kd,hB.al⟩⟩,((Wk.mw j).trans (dM.mt hR9 G)).trans ((Wk.mw hE21).trans (dM.fb (hF1.wk hE21) I))⟩
theorem Eu (B:Nat) (H:bM) (F:aH) (rows:List Rw) (ln:Nat) (seen:List Tx) (r:List Tx) (J:Nat) (j:Option Addr) (A:Nat) (w:World) (s:St w B H F rows ln seen) (hT:Tg w J 9 r.length (.slice j r.length A) (r.map str)) (hr:r.length=2) (hrl:∀ x∈r,x.length≤70000):
 dN Tryz.prog 59 (List.toArray [.pointer (some ⟨H.rb,0,none⟩),.slice j r.length A]) w (fP B H seen (jH F rows ln r) w) (fO B H (jH F rows ln r) w):=by
 obtain ⟨V,R,hF,q,hB⟩:=s
 have hTs:=hT.bH
 have G:¬(H.rb=H.fb):=fun h=>by have h1:=q.cells; rw [h,hF.cells] at h1; cases h1
 have hr1:(r.getD 1 []).length≤70000:=hrl _ (c6 (by omega))
 have I:¬(bk j=H.fb):=Tg.oA hT (bl (by omega)) hF.cells (by decide)
 obtain ⟨ah,ac,ae⟩:=q.tm
 obtain ⟨ag,aa,ab⟩:=q.sm
 refine gr Tryz.func59 rfl Tryz.ntmps59 rfl ?_
 refine sq (fun Z O=>rg rfl (p (aB (.pointer (some ⟨H.rb,0,none⟩)) rfl) (p (aB (.slice j r.length A) rfl) (p (aJ bA rfl rfl (by omega) (ak.ok (hTs.2) (bl (by omega)))) (p (ld bw rfl (bh.get (i:=1) hTs.2 (by omega))) (eP rfl (cj sE (uE H.rb ln (r.getD 1 []) w q.bK (by omega)) rfl fun ai w8 hR8=> ?_) (fun c w' E aj hF=>⟨ln,21,Bc E.2.1,E.1,Wk.mw E.2.2⟩)))))))
 obtain ⟨rfl,Y,C⟩:=hR8
 have hF8:=hF.wk C
 have hR8:=q.wk C
 have hT8s:=(hT.wk C).bH
 refine nl (tn (O _ _ ?_))
 have a:(fun w'=>Md (fun k=>k=H.fb) w8 w') w8.drew:=(Md.refl _ _).drew
 refine bC (fun w'=>Md (fun k=>k=H.fb) w8 w') rfl wide a (hp 0 rfl (by kernel_rfl) (fun _ _=>aB (.pointer (some ⟨H.rb,0,none⟩)) rfl) a (hp 1 rfl (by kernel_rfl) (fun _ _=>nc rfl) a (hp 2 rfl (by kernel_rfl) (fun _ _=>fa eL rfl) a (hp 3 rfl (by kernel_rfl) (fun w' s=>ld eo rfl (Md.aC s ((aO hR8.cells).trans rfl) (by first | exact G | exact I))) a (hp 4 rfl (by kernel_rfl) (fun _ _=>aB (.slice j r.length A) rfl) a (hp 5 rfl (by kernel_rfl) (fun _ _=>aJ bA rfl rfl (by omega) (ak.ok (hT8s.2) (bl (by omega)))) a (hp 6 rfl (by kernel_rfl) (fun w' s=>ld bw rfl (Md.aC s (bh.get (i:=1) hT8s.2 (by omega)) (by first | exact G | exact I))) a ?_)))))))
 refine hp 7 rfl (by kernel_rfl) (fun _ _=>nc rfl) a (hp 8 rfl (by kernel_rfl) (fun _ _=>fa et rfl) a (hp 9 rfl (by kernel_rfl) (fun _ _=>fa G1 rfl) a (he 10 rfl (by kernel_rfl) (ca jc rfl rfl (v:=str (r.getD 1 [])) rfl hF8.cells (by show _ < 14; omega) fun w9 hM9 M=> ?_))))
 have hM9:=e6 hM9
 have U:(fun w'=>Md (fun k=>k=H.fb) w8 w') w9:=hM9
 refine ⟨U,?_⟩
 refine hn (by kernel_rfl) (fY ?_)
 refine f0 rfl ?_
 have hF2:=hF8.put (F':= {F with mx:=r.getD 1 []}) hM9 M rfl rfl rfl rfl hF.ee
 exact ⟨rfl,_,rows,ln,Be Y,⟨V,R,hF2,(hR8.fb hF8 hM9).congr rfl (fun _=>rfl),⟨hB.len,hB.sl,hB.row,hB.kd,hB.al⟩⟩,(Wk.mw C).trans (dM.fb hF8 hM9)⟩
theorem LJ (B:Nat) (H:bM) (F:aH) (rows:List Rw) (ln:Nat) (seen:List Tx) (r:List Tx) (E:Nat) (a:Option Addr) (s:Nat) (w:World) (M:St w B H F rows ln seen) (hT:Tg w E 9 r.length (.slice a r.length s) (r.map str)) (hr:r.length=2) (hrl:∀ x∈r,x.length≤70000):
 dN Tryz.prog 60 (List.toArray [.pointer (some ⟨H.rb,0,none⟩),.slice a r.length s]) w (fP B H seen (jM F rows ln r) w) (fO B H (jM F rows ln r) w):=by
 obtain ⟨V,R,hF,q,hB⟩:=M
 have hTs:=hT.bH
 have Y:¬(H.rb=H.fb):=fun h=>by have h1:=q.cells; rw [h,hF.cells] at h1; cases h1
 have hr1:(r.getD 1 []).length≤70000:=hrl _ (c6 (by omega))
 have Z:¬(bk a=H.fb):=Tg.oA hT (bl (by omega)) hF.cells (by decide)
 obtain ⟨ah,ac,ae⟩:=q.tm
 obtain ⟨ag,aa,ab⟩:=q.sm
 refine gr Tryz.func60 rfl Tryz.ntmps60 rfl ?_
 refine sq (fun O I=>rg rfl (p (aB (.slice a r.length s) rfl) (p (aJ bA rfl rfl (by omega) (ak.ok (hTs.2) (bl (by omega)))) (p (ld bw rfl (bh.get (i:=1) hTs.2 (by omega))) (e (cl Eo (IJ (r.getD 1 []) _ (by omega)) rfl fun v10 w10 hR10=> ?_))))))
 obtain ⟨rfl,j⟩:=hR10
 have hF8:=hF.wk j
 have hR8:=q.wk j
 refine p mv (p (xt rfl rfl) (p (xt rfl rfl) (p aj (p aj (nl (tn (I _ _ (sq (fun U J=> ?_)))))))))
 refine rg rfl (p (aB (.pointer (some ⟨H.rb,0,none⟩)) rfl) (p mv (eP rfl (cj gZ (ku H.rb ln ((letE (r.getD 1 [])).2:Nat) w10 hR8.bK) rfl fun ai w15 hR15=> ?_) (fun c w' A am hF=>⟨ln,_,BL (by have :=A.2.1; omega),A.1,by rw [A.2.2]; exact Wk.mw j⟩))))
 obtain ⟨rfl,C,rfl⟩:=hR15
 have C:(letE (r.getD 1 [])).2=0:=by omega
 refine nl (tn (J _ _ (rg rfl (p (aB (.pointer (some ⟨H.rb,0,none⟩)) rfl) (p (nc rfl) (p (fa eL rfl) (p (ld eo rfl ((aO hR8.cells).trans rfl)) (p mv ?_))))))))
 refine p (nc rfl) (p (fa et rfl) (p (fa G2 rfl) (e (ca jc rfl rfl (v:=str (letE (r.getD 1 [])).1) rfl hF8.cells (by show _ < 14; omega) fun w9 hM9 G=>nl (fY ?_)))))
 refine f0 rfl ?_
 have hF2:=hF8.put (F':= {F with tr:=(letE (r.getD 1 [])).1}) hM9 G rfl rfl rfl rfl hF.ee
 exact ⟨rfl,_,rows,ln,BM C,⟨V,R,hF2,(hR8.fb hF8 hM9).congr rfl (fun _=>rfl),⟨hB.len,hB.sl,hB.row,hB.kd,hB.al⟩⟩,(Wk.mw j).trans (dM.fb hF8 hM9)⟩
theorem ID (B:Nat) (H:bM) (F:aH) (rows:List Rw) (ln:Nat) (seen:List Tx) (r:List Tx) (J:Nat) (A:Option Addr) (C:Nat) (w:World) (q:St w B H F rows ln seen) (hT:Tg w J 9 r.length (.slice A r.length C) (r.map str)) (hr:r.length=2) (hrl:∀ x∈r,x.length≤70000):
 dN Tryz.prog 62 (List.toArray [.pointer (some ⟨H.rb,0,none⟩),.slice A r.length C]) w (fP B H seen (g8 F rows ln r) w) (fO B H (g8 F rows ln r) w):=by
 obtain ⟨V,R,hF,a,hB⟩:=q
 have hTs:=hT.bH
 have G:¬(H.rb=H.fb):=fun h=>by have h1:=a.cells; rw [h,hF.cells] at h1; cases h1
 have hr1:(r.getD 1 []).length≤70000:=hrl _ (c6 (by omega))
 have I:¬(bk A=H.fb):=Tg.oA hT (bl (by omega)) hF.cells (by decide)
 obtain ⟨ai,ae,ag⟩:=a.tm
 obtain ⟨ah,ab,ac⟩:=a.sm
 refine gr Tryz.func62 rfl Tryz.ntmps62 rfl ?_
 refine sq (fun aa M=> ?_)
 have hS0:(fun w'=>Md (fun k=>k=H.fb) w w') w.drew:=(Md.refl _ _).drew
 refine bC (fun w'=>Md (fun k=>k=H.fb) w w') rfl wide hS0 (hp 0 rfl (by kernel_rfl) (fun _ _=>aB (.pointer (some ⟨H.rb,0,none⟩)) rfl) hS0 (hp 1 rfl (by kernel_rfl) (fun _ _=>nc rfl) hS0 (hp 2 rfl (by kernel_rfl) (fun _ _=>fa eL rfl) hS0 (hp 3 rfl (by kernel_rfl) (fun w' q=>ld eo rfl (Md.aC q ((aO a.cells).trans rfl) (by first | exact G | exact I))) hS0 (hp 4 rfl (by kernel_rfl) (fun _ _=>aB (.pointer (some ⟨H.rb,0,none⟩)) rfl) hS0 (hp 5 rfl (by kernel_rfl) (fun _ _=>aB (.slice A r.length C) rfl) hS0 (hp 6 rfl (by kernel_rfl) (fun _ _=>aJ bA rfl rfl (by omega) (ak.ok (hTs.2) (bl (by omega)))) hS0 ?_)))))))
 refine hp 7 rfl (by kernel_rfl) (fun w' q=>ld bw rfl (Md.aC q (bh.get (i:=1) hTs.2 (by omega)) (by first | exact G | exact I))) hS0 (nk 8 rfl (by kernel_rfl) rfl (cj pQ (qZ H.rb ln (r.getD 1 []) 64 w.drew a.bK (by omega) (by omega)) rfl fun cB w12 O=> ?_) (fun c w' j Z hF=>by obtain ⟨e,he,h,h2⟩:=j; exact ⟨ln,e,Ai he,h,Wk.mw (e6 h2)⟩))
 obtain ⟨n,hnx,rfl,hE12⟩:=O
 have hE12:=e6 hE12
 have hF8:=hF.wk hE12
 have hR8:=a.wk hE12
 have s:(fun w'=>Md (fun k=>k=H.fb) w w') w12:=Md.mono hE12 (fun _ _ h=>h.elim)
 refine ⟨s,?_⟩
 refine hp 9 rfl (by kernel_rfl) (fun _ _=>nc rfl) s (hp 10 rfl (by kernel_rfl) (fun _ _=>fa et rfl) s (hp 11 rfl (by kernel_rfl) (fun _ _=>fa tA rfl) s (he 12 rfl (by kernel_rfl) (ca fW rfl rfl (v:= .int .i64 (n:Nat)) rfl hF8.cells (by show _ < 14; omega) fun w9 hM9 E=> ?_))))
 have hR9:=hR8.fb hF8 hM9
 have Y:(fun w'=>Md (fun k=>k=H.fb) w w') w9:=s.trans' hM9 (fun _ _ h=>h)
 refine ⟨Y,?_⟩
 refine hn (by kernel_rfl) (tn (M _ _ (rg rfl (p (aB (.pointer (some ⟨H.rb,0,none⟩)) rfl) (p (aB (.pointer (some ⟨H.rb,0,none⟩)) rfl) (p (nc rfl) (p (fa eL rfl) (p (ld eo rfl ((aO hR9.cells).trans rfl)) ?_))))))))
 refine p (nc rfl) (p (fa et rfl) (p (fa tA rfl) (p (ld bQ rfl ((aO E).trans rfl)) (p (gt rfl rfl) (eP rfl (cj eT (e4 H.rb ln _ 13 w9 hR9.bK (by decide)) rfl fun aj w26 U=> ?_) (fun c w' j Z hF=>by have h0:=of_decide_eq_false j.2.1; exact ⟨ln,13,Aj hnx (by omega),j.1,by rw [j.2.2]; exact (Wk.mw hE12).trans (dM.fb hF8 hM9)⟩))))))
 obtain ⟨rfl,hx26,rfl⟩:=U
 have hx26:=of_decide_eq_true hx26
 refine nl (fY ?_)
 refine f0 rfl ?_
 have hF2:=hF8.put (F':= {F with least:=n}) hM9 E rfl rfl rfl rfl hF.ee
 exact ⟨rfl,_,rows,ln,Ak hnx (by omega),⟨V,R,hF2,hR9.congr rfl (fun _=>rfl),⟨hB.len,hB.sl,hB.row,hB.kd,hB.al⟩⟩,(Wk.mw hE12).trans (dM.fb hF8 hM9)⟩
theorem Iz (B:Nat) (H:bM) (F:aH) (rows:List Rw) (ln:Nat) (seen:List Tx) (r:List Tx) (ao:Nat) (E:Option Addr) (I:Nat) (w:World) (G:St w B H F rows ln seen) (hT:Tg w ao 9 r.length (.slice E r.length I) (r.map str)) (hr:r.length=2) (hrl:∀ x∈r,x.length≤70000):
 dN Tryz.prog 58 (List.toArray [.pointer (some ⟨H.rb,0,none⟩),.slice E r.length I]) w (fP B H seen (gQ F seen rows ln r) w) (fO B H (gQ F seen rows ln r) w):=by
 obtain ⟨V,R,hF,J,hB⟩:=G
 have hTs:=hT.bH
 have ag:¬(H.rb=H.fb):=fun h=>by have h1:=J.cells; rw [h,hF.cells] at h1; cases h1
 have hr1:(r.getD 1 []).length≤70000:=hrl _ (c6 (by omega))
 have ah:¬(bk E=H.fb):=Tg.oA hT (bl (by omega)) hF.cells (by decide)
 obtain ⟨a6,a3,a4⟩:=J.tm
 obtain ⟨a5,aT,aU⟩:=J.sm
 refine gr Tryz.func58 rfl Tryz.ntmps58 rfl ?_
 refine sq (fun aW av=>sq (fun aX aw=>rg rfl (e (m4 (L:=hU.map str) dU rfl rfl rfl rfl fun Y w6 hb6 aD hB6=> ?_))))
 have ae:bh w6.heap (some ⟨Y,0,none⟩) hU:=ak.cQ ⟨_,hB6⟩
 have s:Wk w w6:=aD.md
 have hF6:=hF.wk s
 have hR6:=J.wk s
 have hT6s:=(hT.wk s).bH
 have hsf6:=aT.wk s
 have a2:hU.length=8:=rfl
 refine p (ba c9 rfl rfl) (p mv (nl (tn (aw _ _ (az (lp (fun Z C wI=> ∃ (i:Nat),(i≤8)∧(∀ j,j < i→hU.getD j []∉seen)∧(wI=w6)∧(C 0= .pointer (some ⟨H.rb,0,none⟩))∧(C 1= .slice E r.length I)∧(C 6= .slice (some ⟨Y,0,none⟩) 8 8)∧(C 7= .int .i64 (8:Nat))∧(C 8= .int .i64 (i:Nat))∧(8 - i=Z)) _ ⟨0,(by omega),((fun j hj=>by omega)),rfl,rfl,rfl,rfl,rfl,rfl,rfl⟩ ?_))))))
 rintro Z C wI ⟨i,hi,ai,ar,aM,aN,aP,aR,aS,rfl⟩
 refine fx 0 aM (fx 1 aN (fx 6 aP (fx 7 aR (fx 8 aS ?_))))
 subst ar
 refine sq (fun aY ax=>rg rfl (p (lt rfl rfl) (nl (tn (ax _ _ (sq (fun aZ ay=>cd rfl (fun aL=> ?_) (fun aL=> ?_))))))))
 refine au (tn (ay _ _ (sq (fun ap M=>az (sq (fun a0 aA=>rg rfl (p (aJ bA rfl rfl (by omega) (ak.ok (ae) (bl (by omega)))) (p (ld bw rfl (bh.get (i:=i) ae (by omega))) ?_))))))))
 refine p aj (nl (tn (aA _ _ (rg rfl (p (aB (.pointer (some ⟨H.rb,0,none⟩)) rfl) (p (aB (.pointer (some ⟨H.rb,0,none⟩)) rfl) (p (nc rfl) (p (fa nj rfl) ?_))))))))
 refine p (ld m3 rfl ((aO hR6.cells).trans rfl)) (p mv (p (j0 l8 kJ fp (hsf6) rfl rfl (⟨_,rfl⟩) (aU _)) (p (a8 rfl rfl) (eP rfl (cj eT (e4 H.rb ln _ 113 wI hR6.bK (by decide)) rfl fun v20 w20 aE=> ?_) (fun c w' q aV hF=>⟨ln,113,ot (k:=hU.getD i []) (c6 (by omega)) (by have h:=of_decide_eq_false q.2.1; exact Classical.not_not.1 fun h2=>h (by have :=List.count_eq_zero.2 h2; omega)),q.1,by rw [q.2.2]; exact Wk.mw s⟩)))))
 obtain ⟨rfl,O,rfl⟩:=aE
 have O:hU.getD i []∉seen:=List.count_eq_zero.1 (by have :=of_decide_eq_true O; omega)
 refine nl (bn (tn (M _ _ (rg rfl (p (ad rfl rfl (bp (by omega))) (p mv (nl (tn ?_))))))))
 exact ⟨_,by omega,i+1,(by omega),((fun j hj=>by rcases Nat.lt_or_ge j i with h | h <;> first | exact ai j h | (rw [show j=i by omega]; exact O))),rfl,rfl,rfl,rfl,rfl,rfl,rfl⟩
 refine ext (te _ (te _ (be (tn (av _ _ (sq (fun ap M=> ?_)))))))
 have am:ordered seen=true :=(uv seen).2 fun k hk=>by obtain ⟨j,hj,rfl⟩:=k5 [] hk; exact ai j (by omega)
 have a:(fun w'=>Md (fun k=>k=H.fb) wI w') wI.drew:=(Md.refl _ _).drew
 refine bC (fun w'=>Md (fun k=>k=H.fb) wI w') rfl wide a (hp 0 rfl (by kernel_rfl) (fun _ _=>aB (.pointer (some ⟨H.rb,0,none⟩)) rfl) a (hp 1 rfl (by kernel_rfl) (fun _ _=>nc rfl) a (hp 2 rfl (by kernel_rfl) (fun _ _=>fa eL rfl) a (hp 3 rfl (by kernel_rfl) (fun w' G=>ld eo rfl (Md.aC G ((aO hR6.cells).trans rfl) (by first | exact ag | exact ah))) a (hp 5 rfl (by kernel_rfl) (fun _ _=>aB (.slice E r.length I) rfl) a (hp 6 rfl (by kernel_rfl) (fun _ _=>aJ bA rfl rfl (by omega) (ak.ok (hT6s.2) (bl (by omega)))) a (hp 7 rfl (by kernel_rfl) (fun w' G=>ld bw rfl (Md.aC G (bh.get (i:=1) hT6s.2 (by omega)) (by first | exact ag | exact ah))) a ?_)))))))
 refine he 4 rfl (by kernel_rfl) (m4 (L:=kinds.map str) dU rfl rfl rfl rfl fun U w26 a1 ab aq=> ?_)
 have aI:bh w26.heap (some ⟨U,0,none⟩) kinds:=ak.cQ ⟨_,aq⟩
 have hE26:=e6 ab.md
 have ac:(fun w'=>Md (fun k=>k=H.fb) wI w') w26:=a.trans' ab.md (fun _ _ h=>h.elim)
 refine ⟨ac,?_⟩
 refine he 8 rfl (by kernel_rfl) (cl pP (zS kinds (some ⟨U,0,none⟩) 3 (r.getD 1 []) _ aI (by decide)) rfl fun v30 w30 aF=> ?_)
 obtain ⟨an,rfl⟩:=aF
 rw [Ix] at an
 subst an
 have hkl:=Iy (r.getD 1 [])
 have A:(fun w'=>Md (fun k=>k=H.fb) wI w') w30:=ac
 refine ⟨A,?_⟩
 refine hp 9 rfl (by kernel_rfl) (fun _ _=>a9 ((fS (r.getD 1 []):Nat):Int) rfl rfl (aQ (by omega) (by omega))) A (hp 10 rfl (by kernel_rfl) (fun _ _=>nc rfl) A (hp 11 rfl (by kernel_rfl) (fun _ _=>fa et rfl) A (hp 12 rfl (by kernel_rfl) (fun _ _=>fa ng rfl) A (he 13 rfl (by kernel_rfl) (ca fW rfl rfl (v:= .int .i64 (fS (r.getD 1 []):Nat)) rfl ((hF6.wk hE26).cells) (by show _ < 14; omega) fun w9 hM9 aa=> ?_)))))
 have hF26:=hF6.wk hE26
 have hR9:=(hR6.wk hE26).fb hF26 hM9
 have hMw:=((Wk.mw s).trans (Wk.mw hE26)).trans (dM.fb hF26 hM9)
 have aK:(fun w'=>Md (fun k=>k=H.fb) wI w') w9:=A.trans' hM9 (fun _ _ h=>h)
 refine ⟨aK,?_⟩
 refine hn (by kernel_rfl) (tn (M _ _ (rg rfl (p (aB (.pointer (some ⟨H.rb,0,none⟩)) rfl) (p (aB (.pointer (some ⟨H.rb,0,none⟩)) rfl) (p (nc rfl) (p (fa eL rfl) (p (ld eo rfl ((aO hR9.cells).trans rfl)) ?_))))))))
 refine p (nc rfl) (p (fa et rfl) (p (fa ng rfl) (p (ld bQ rfl ((aO aa).trans rfl)) (p (gt rfl rfl) (eP rfl (cj eT (e4 H.rb ln _ 114 w9 hR9.bK (by decide)) rfl fun a7 w45 aG=> ?_) (fun c w' q aV hF=>by have h0:=of_decide_eq_false q.2.1; exact ⟨ln,114,z0 am (by omega),q.1,by rw [q.2.2]; exact hMw⟩))))))
 obtain ⟨rfl,hx45,rfl⟩:=aG
 have hx45:=of_decide_eq_true hx45
 refine nl (fY ?_)
 refine f0 rfl ?_
 have hF2:=hF26.put (F':= {F with kind:=fS (r.getD 1 [])}) hM9 aa rfl rfl rfl rfl hF.ee
 exact ⟨rfl,_,rows,ln,qK am (by omega),⟨V,R,hF2,hR9.congr rfl (fun _=>rfl),⟨hB.len,hB.sl,hB.row,(by show fS (r.getD 1 [])=1∨fS (r.getD 1 [])=2∨fS (r.getD 1 [])=3; omega),hB.al⟩⟩,hMw⟩
end Go.Hb.iQ
end
section
set_option maxRecDepth 20000
set_option maxHeartbeats 1000000
namespace Go.Hb.kN
open Go.Hb.di
open Go.Proofs
open Go.Hb.fQ
theorem xQ {h:Array Obj} {b:Nat} {f:UInt8→Bool} (hB:bD h b (dj f)) (c:UInt8):Hb.aC h b (0 +((c.toNat / 64:Nat):Int).toNat*1)=some (.int .u64 (dB f (c.toNat / 64))):=by
 have hc:=UInt8.toNat_lt c
 rw [hB.aC,show 0 +((c.toNat / 64:Nat):Int).toNat*1=c.toNat / 64 from by omega]; exact sN f (by omega)
theorem E6 {h:Array Obj} {b:Nat} {f:UInt8→Bool} {c:UInt8} (hB:bD h b ((dj f).set (0 +((c.toNat / 64:Nat):Int).toNat*1) (.int .u64 ((dB f (c.toNat / 64) ||| 2 ^ (c.toNat % 64):Nat):Int)))):bD h b (dj (fun x=>f x || decide (x=c))):=by
 rw [show 0 +((c.toNat / 64:Nat):Int).toNat*1=c.toNat / 64 from by omega,E4] at hB; exact hB
theorem E5 {f g:UInt8→Bool} (h:∀ b,f b=g b):dj f=dj g:=by rw [show f=g from funext h]
theorem H6 {l:List UInt8} {i:Nat} (h:i < l.length) (x:UInt8):(decide (x∈l.take i) || decide (x=l.getD i 0))=decide (x∈l.take (i+1)):=by
 rw [ef l i 0 h,← Bool.decide_or]
 exact decide_eq_decide.2 (by rw [List.mem_append,List.mem_singleton])
theorem ux {w:World} {B e n cp i:Nat} {a:Option Addr} {l:List UInt8} (h:w.ownsRow B e 1 (.slice a n cp) n (U8 l)) (hi:i≤n) (hn:0 < n):w.ownsRow B e 1 (.slice a i cp) i (U8 (l.take i)):=by
 have ha:a≠none:=by
  rintro rfl
  rcases h.2 with ⟨_,h5⟩ | ⟨g,cap,cur,h4,_⟩
  · omega
  · simp at h4
 have :=AE h hi ha
 rw [Nat.mul_one] at this
 unfold U8 at*
 rwa [List.map_take]
theorem JG {w:World} {B e n cp:Nat} {a:Option Addr} {xs:List Value} (h:w.ownsRow B e 1 (.slice a n cp) n xs) (hn:0 < n):∃ gg,a=some ⟨gg,0,none⟩:=by
 rcases h.2 with ⟨_,h5⟩ | ⟨g,cap,cur,h4,_⟩
 · omega
 · simp only [Value.slice.injEq] at h4; exact ⟨g,h4.1⟩
theorem LN {w:World} {B e n cp j:Nat} {a:Option Addr} {l:List UInt8} (h:w.ownsRow B e 1 (.slice a n cp) n (U8 l)):ak w.heap (ed a cp j 1) (U8 (l.drop j)):=by
 have h2:=(aI h).2.drop (cap:=cp) (k:=j) (size:=1) (by have h1:=h.1; have h3:=(aI h).1; omega)
 rw [Nat.mul_one] at h2
 unfold U8 at*
 rwa [List.map_drop]
theorem vj {w:World} {B e n:Nat} {v:Value} {l:List UInt8} (h:w.ownsRow B e 1 v n (U8 l)):l.length=n:=by have :=h.1; rw [pc] at this; omega
theorem AO (b:Nat) (c:UInt8) (f:UInt8→Bool) (w:World) (hB:bD w.heap b (dj f)):
 aU Tryz.prog 136 (List.toArray [aG b,.int .u8 c.toNat]) w (fun v w'=>v= .tuple #[]∧bD w'.heap b (dj (fun x=>f x || decide (x=c)))∧Md (fun q=>q=b) w w'):=by
 have hc8:=UInt8.toNat_lt c
 refine enter Tryz.func136 rfl Tryz.ntmps136 rfl ?_
 have hS0:(fun w'=>Wk w w') w.drew:=(Md.refl _ _).drew
 refine dG (fun w'=>Wk w w') 12 rfl wide hS0 (a3 0 rfl (aG b) hS0 (a3 1 rfl (.int .u8 c.toNat) hS0 (a5 2 rfl (fun _=>shr rfl rfl (by decide) (Bi c)) (fun _=>hS0) (a5 3 rfl (fun _=>nc rfl) (fun _=>hS0) (a5 4 rfl (fun _=>il mq rfl rfl (by omega)) (fun _=>hS0) (cO 5 rfl (fun w' j=>ld mY rfl (Wk.aC j (xQ hB c))) hS0 (a3 6 rfl (.int .u8 c.toNat) hS0 ?_)))))))
 refine a5 7 rfl (fun _=>pD rfl rfl (wi c)) (fun _=>hS0) (a5 8 rfl (fun _=>shl rfl rfl (by omega) (KK (by omega))) (fun _=>hS0) (a5 9 rfl (fun _=>wy rfl rfl (JA (nK _ _) (Nat.pow_lt_pow_right (by decide) (by omega)))) (fun _=>hS0) (a5 10 rfl (fun _=>nc rfl) (fun _=>hS0) (a5 11 rfl (fun _=>il mq rfl rfl (by omega)) (fun _=>hS0) (cD 12 rfl (by kernel_rfl) (by kernel_rfl) (st FH rfl rfl (rfl) (hS0.B hB) (by rw [pW]; omega) fun p i a=> ?_))))))
 have hB0:=E6 a
 refine dF (by kernel_rfl) ?_
 refine f0 rfl ?_
 exact ⟨rfl,hB0,Md.trans (Md.refl _ _).drew i⟩
theorem Hy (f:UInt8→Bool) (c:UInt8) (w:World):
 aU Tryz.prog 153 (List.toArray [.agg (dj (f)).toArray,.int .u8 c.toNat]) w (fun v w'=>v= .bool (f c)∧Wk w w'):=by
 have hc8:=UInt8.toNat_lt c
 refine enter Tryz.func153 rfl Tryz.ntmps153 rfl ?_
 refine U (fun _ a=>(e (jo rfl fun q s hb2 j hB2=>ae (((a _ _ (U (fun _ i=> ?_))))))))
 refine ab (.int .u8 c.toNat) (p (shr rfl rfl (by decide) (Bi c)) (p (il mq rfl rfl (by omega)) (p (ld mY rfl (xQ hB2 c)) (ab (.int .u8 c.toNat) (p (pD rfl rfl (wi c)) (p (shr rfl rfl (by omega) (KR _ (by omega))) (p (pD rfl rfl (CL (Nat.lt_of_le_of_lt (Nat.div_le_self _ _) (nK _ _)))) ?_)))))))
 exact p (a8 rfl rfl) (ae (((i _ _ (rt (f1 rfl rfl (⟨congrArg Value.bool (Ma f c),j.md⟩)))))))
theorem uw (f:UInt8→Bool) (w:World):
 aU Tryz.prog 135 (List.toArray [.agg (dj (f)).toArray]) w (fun v w'=>v= .agg (dj (fun x=> !f x)).toArray∧Wk w w'):=by
 refine enter Tryz.func135 rfl Tryz.ntmps135 rfl ?_
 refine U (fun _ q=>(e (jo rfl fun E w1 I i hB1=>e (al mS fun G J hb2 a hB2=>ag ((q _ _ (U (fun _ s=> ?_))))))))
 refine p (il mq rfl rfl (by omega)) (p (ld mY rfl ((a.md.B hB1).aC 0)) (p (pX rfl) (p (il mq rfl rfl (by omega)) (p (ld mY rfl ((a.md.B hB1).aC 1)) (p (pX rfl) (p (il mq rfl rfl (by omega)) (p (ld mY rfl ((a.md.B hB1).aC 2)) ?_)))))))
 refine p (pX rfl) (p (il mq rfl rfl (by omega)) (p (ld mY rfl ((a.md.B hB1).aC 3)) (p (pX rfl) (p (wx (ps:= [(0,.int .u64 (dB (fun x=> !f x) 0:Nat)),(1,.int .u64 (dB (fun x=> !f x) 1:Nat)),(2,.int .u64 (dB (fun x=> !f x) 2:Nat)),(3,.int .u64 (dB (fun x=> !f x) 3:Nat))]) (L:= [.int .u64 (dB (fun x=> !f x) 0:Nat),.int .u64 (dB (fun x=> !f x) 1:Nat),.int .u64 (dB (fun x=> !f x) 2:Nat),.int .u64 (dB (fun x=> !f x) 3:Nat)]) wo rfl (rfl)) (e (bX kU rfl (vs:=dj (fun x=> !f x)) rfl rfl rfl hB2 (by decide) fun w3 C A=>ag ((s _ _ ?_))))))))
 exact rt (oa rfl (c8 rfl gY rfl (fun j hj=>by rw [Nat.zero_add]; exact A.aC j)) (⟨rfl,Md.trans' (Md.trans i.md a.md) C (fun k hk h=>by have :=i.md.size; omega)⟩))
theorem zD (f:UInt8→Bool) (c:UInt8) (ci:Int) (w:World) (a:(c.toNat:Int)=ci):aU Tryz.prog 153 (List.toArray [.agg (dj (f)).toArray,.int .u8 ci]) w (fun v w'=>v= .bool (f c)∧Wk w w'):=by
 subst a; exact Hy f c w
theorem wT (f:UInt8→Bool) (w:World):
 aU Tryz.prog 152 (List.toArray [.agg (dj (f)).toArray]) w (fun v w'=>World.ownsRow w' w.heap.size 5 1 (v) ((bytesOf f)).length (U8 ((bytesOf f)))∧Wk w w'):=by
 refine enter Tryz.func152 rfl Tryz.ntmps152 rfl ?_
 refine U (fun _ V=>(e (jo rfl fun an w1 aD I hB1=>ae (((V _ _ (U (fun _ Y=> ?_))))))))
 refine ae (((Y _ _ (sq (fun _ Z=>U (fun _ ac=>(p mv (nl ?_))))))))
 refine tn (ac _ _ (az (lp (fun M G wI=> ∃ (i:Nat) (a:Value),(i≤256)∧(World.ownsRow wI w1.heap.size 5 1 (a) ((iG f i)).length (U8 ((iG f i))))∧(Wk w1 wI)∧(G 1=aG an)∧(G 3=a)∧(G 5=aa i)∧(256 - i=M)) _ ⟨0,.slice none 0 0,(by omega),(World.ownsRow_nil _ _ _ _),(Md.refl _ _),rfl,rfl,rfl,rfl⟩ ?_)))
 rintro M G wI ⟨i,a,hi,E,s,av,aw,ax,rfl⟩
 refine fx 1 av (fx 3 aw (fx 5 ax ?_))
 have aB:Wk w wI:=Md.trans I.md s
 have hbl:=lJ f i
 have hs1:=s.size
 refine U (fun _ ah=>(p (lt rfl rfl) (ag ((ah _ _ (sq (fun _ ai=>cd rfl (fun hc6=> ?_) (fun hc6=> ?_))))))))
 refine au (tn (ai _ _ (sq (fun _ A=>az (U (fun _ al=>(ab (aa i) (p (bG (aa i) rfl) ?_))))))))
 refine ag ((al _ _ (U (fun _ am=>(p (dx gY rfl (rfl) (fun j hj=>by rw [Nat.zero_add]; exact (s.B hB1).aC j)) (ab (aa i) (p (ig u5 l9 rfl (nN (by omega))) (e (cl xn (zD f (UInt8.ofNat i) _ _ (rF i (by omega))) rfl fun v11 w11 hR11=> ?_)))))))))
 obtain ⟨rfl,q⟩:=hR11
 refine ag ((am _ _ (cb rfl (fun J=> ?_) (fun J=> ?_))))
 refine rg rfl (ab (a) (ab (aa i) (p (ig u5 l9 rfl (nN (by omega))) (e (ea eQ rfl rfl fun aA w15 aF C ao=>e (ap eQ (aE (aE E q) C.md) rfl (by have :=q.size; have :=C.md.size; omega) rfl (ak.cQ ao) (rfl) (rfl) (by omega) (by omega) fun ay w16 O hM16 hz16 aH=> ?_))))))
 rw [← rF i (by omega)] at O
 have ho16x:=l1 O
 have aq:Wk w1 w16:=Wk.own (Md.trans (Md.trans s q) C.md) (aE (aE E q) C.md) hM16 (Nat.le_refl _)
 refine p aj (nl (bn (tn (A _ _ (rg rfl (p (ad rfl rfl (bp (by omega))) (p mv (nl ?_))))))))
 exact tn (⟨_,by omega,i+1,ay,(by omega),((by rw [m5,if_pos J]; exact ho16x)),aq,rfl,rfl,rfl,rfl⟩)
 refine au (bn (tn (A _ _ (rg rfl (p (ad rfl rfl (bp (by omega))) (p mv (nl (tn ?_))))))))
 exact ⟨_,by omega,i+1,a,(by omega),((by rw [m5,if_neg (by rw [J]; exact Bool.noConfusion),List.append_nil]; exact aE E q)),(Md.trans s q),rfl,rfl,rfl,rfl⟩
 refine ext (te _ (te _ (be (tn (Z _ _ (U (fun _ A=>(ab (a) ?_))))))))
 refine p (bG (a) rfl) (ag ((A _ _ (rt (f1 rfl rfl ?_)))))
 have ar:i=256:=by omega
 subst ar
 exact ⟨fZ E I.md.size,Md.trans I.md s⟩
theorem Fa (s:List UInt8) (w:World) (hs:s.length≤1048576):
 aU Tryz.prog 151 (List.toArray [str s]) w (fun v w'=>v= .agg (dj (fun x=>decide (x∈s))).toArray∧Wk w w'):=by
 refine enter Tryz.func151 rfl Tryz.ntmps151 rfl ?_
 refine U (fun _ Y=>(e (al mS fun C aE hb2 O hB2=>ag ((Y _ _ (U (fun _ Z=>(e (al mS fun q w3 aB V am=> ?_)))))))))
 have an:bD w3.heap q (dj (fun x=>decide (x∈s.take 0))):=by rw [show (fun x=>decide (x∈s.take 0))=(fun _:UInt8=>false) from funext fun x=>by simp,sO]; exact am
 refine ag ((Z _ _ (sq (fun _ ac=>U (fun _ ae=>(ab (str s) (p (bI u9 rfl rfl) (p mv ?_))))))))
 refine ag ((ae _ _ (az ?_)))
 have hb2l:=hB2.lt
 refine lp (fun E a wI=> ∃ (i:Nat),(i≤s.length)∧(bD wI.heap q (dj (fun x=>decide (x∈s.take i))))∧(bD wI.heap C [.int .u64 0,.int .u64 0,.int .u64 0,.int .u64 0])∧(Wk w wI)∧(a 0=str s)∧(a 2=aG C)∧(a 3=aG q)∧(a 6=aa (s.length))∧(a 7=aa i)∧(s.length - i=E)) _ ⟨0,(by omega),an,(V.md.B hB2),(Md.trans O.md V.md),rfl,rfl,rfl,rfl,rfl,rfl⟩ ?_
 rintro E a wI ⟨i,hi,G,I,J,ar,av,aw,ax,ay,rfl⟩
 refine fx 0 ar (fx 2 av (fx 3 aw (fx 6 ax (fx 7 ay (U (fun _ ah=>(p (lt rfl rfl) (ag ((ah _ _ (sq (fun _ ai=>cd rfl (fun hc8=> ?_) (fun hc8=> ?_)))))))))))))
 refine au (tn (ai _ _ (sq (fun _ A=>az (U (fun _ aj=>(ab (aa i) (p (bG (aa i) rfl) ?_))))))))
 refine ag ((aj _ _ (rg rfl (ab (str s) (ab (aa i) (p (dA u9 rfl rfl (by omega)) (e (cl xi (AO q (s.getD i 0) _ _ G) rfl fun aD w13 hR13=> ?_))))))))
 obtain ⟨rfl,ak,M⟩:=hR13
 have ap:Wk w w13:=Md.trans' J M (fun k hk h=>by have :=O.md.size; omega)
 refine nl (bn (tn (A _ _ (rg rfl (p (ad rfl rfl (bp (by omega))) (p mv (nl (tn ?_))))))))
 exact ⟨_,by omega,i+1,(by omega),((by rw [E5 (fun x=>(H6 (show i < s.length by omega) x).symm)]; exact ak)),(M.B I (fun h=>by omega)),ap,rfl,rfl,rfl,rfl,rfl,rfl⟩
 refine ext (te _ (te _ (be (tn (ac _ _ (U (fun _ A=>(p (dx gY rfl (rfl) (fun j hj=>by rw [Nat.zero_add]; exact (G).aC j)) ?_))))))))
 refine e (bX kU rfl (vs:=dj (fun x=>decide (x∈s.take i))) rfl rfl rfl I (by decide) fun w7 aq ao=>ag ((A _ _ (rt (oa rfl (c8 rfl gY rfl (fun j hj=>by rw [Nat.zero_add]; exact ao.aC j)) ?_)))))
 have aA:s.take i=s:=List.take_of_length_le (by omega)
 rw [aA]
 exact ⟨rfl,Md.trans' J aq (fun k hk h=>by omega)⟩
theorem H8 (s:List UInt8) (c:UInt8) (w:World):
 aU Tryz.prog 149 (List.toArray [str s,.int .u8 c.toNat]) w (fun v w'=>v= .int .i64 (dC c s)∧Wk w w'):=by
 refine enter Tryz.func149 rfl Tryz.ntmps149 rfl ?_
 refine U (fun _ a=>(ae (((a _ _ (U (fun _ i=>(ab (str s) ?_))))))))
 exact ab (.int .u8 c.toNat) (e (cl xl (zR s c _) rfl fun j w7 hR7=>ae (((i _ _ (rt (f1 rfl rfl (hR7))))))))
theorem Fv (s pr:List UInt8) (w:World) (hs:s.length≤1099511627776) (E:pr.length≤1099511627776):
 aU Tryz.prog 174 (List.toArray [str s,str pr]) w (fun v w'=>v= .tuple #[str (eR s pr),.bool (decide (s.take pr.length=pr))]∧Wk w w'):=by
 refine enter Tryz.func174 rfl Tryz.ntmps174 rfl ?_
 refine U (fun _ q=>(p aj (ae (((q _ _ (sq (fun _ A=>sq (fun _ C=> ?_)))))))))
 refine rg rfl (ab (str s) (ab (str pr) (e (cl xg (zC s pr _ hs E) rfl fun G w8 hR8=> ?_))))
 obtain ⟨rfl,j⟩:=hR8
 refine p (no rfl) (ag ((C _ _ (cb rfl (fun i=> ?_) (fun i=> ?_)))))
 have hpp:¬s.take pr.length=pr:=by simpa using i
 refine U (fun _ a=>(ab (str s) (p (bG (str s) rfl) (ae (((a _ _ (rt ?_))))))))
 exact tr (f2 rfl rfl rfl (⟨by unfold eR; rw [if_neg hpp,decide_eq_false hpp]; rfl,j⟩))
 have hpp:s.take pr.length=pr:=by simpa using i
 have hpl:=uF hpp
 refine au (tn (A _ _ (U (fun _ a=>(ab (str s) (ab (str pr) (p (bI u9 rfl rfl) (p (kB u9 rfl rfl (by omega)) ?_))))))))
 exact p aj (ae (((a _ _ (rt (f2 rfl rfl rfl (⟨by unfold eR; rw [if_pos hpp,decide_eq_true hpp]; rfl,j⟩)))))))
theorem Fw (s pr:List UInt8) (w:World) (hs:s.length≤1099511627776) (q:pr.length≤1099511627776):
 aU Tryz.prog 150 (List.toArray [str s,str pr]) w (fun v w'=>v= .tuple #[str (eR s pr),.bool (decide (s.take pr.length=pr))]∧Wk w w'):=by
 refine enter Tryz.func150 rfl Tryz.ntmps150 rfl ?_
 refine U (fun _ a=>(p aj (ae (((a _ _ (U (fun _ i=> ?_))))))))
 refine ab (str s) (ab (str pr) (e (cl DQ (Fv s pr _ hs q) rfl fun A w8 hR8=> ?_)))
 obtain ⟨rfl,j⟩:=hR8
 refine p (xt rfl rfl) (p (xt rfl rfl) (p aj (ae (((i _ _ (rt (f2 rfl rfl rfl ?_))))))))
 exact ⟨rfl,j⟩
theorem LD (s pr:List UInt8):(eR s pr).length≤s.length:=by unfold eR; split <;> simp
def fI (s:List UInt8) (k:Nat):List UInt8:=(s.drop k).take ((s.drop k).idxOf 93)
theorem CT (s:List UInt8) (k:Nat):(fI s k).length≤s.length:=by unfold fI; rw [List.length_take,List.length_drop]; omega
theorem CS (s:List UInt8) (k:Nat):(s.take (k+(s.drop k).idxOf 93)).drop k=fI s k:=by
 rw [List.drop_take,Nat.add_sub_cancel_left]; rfl
def lI (s:List UInt8) (k:Nat):UInt8→Bool:=fun x=>if (fI s k).take 1= [94] then !decide (x∈eR (fI s k) [94]) else decide (x∈eR (fI s k) [94])
theorem CW {s:List UInt8} {k:Nat} (h:(fI s k).take [(94:UInt8)].length= [94]):lI s k=fun x=> !decide (x∈eR (fI s k) [94]):=by
 funext x; exact if_pos h
theorem CX {s:List UInt8} {k:Nat} (h:¬(fI s k).take [(94:UInt8)].length= [94]):lI s k=fun x=>decide (x∈eR (fI s k) [94]):=by
 funext x; exact if_neg h
theorem CU (s:List UInt8) (k:Nat) (w:World) (hs:s.length≤1048576) (hk:k≤s.length):
 aU Tryz.prog 134 (List.toArray [str s,aa k]) w (fun v w'=>(∃ f,v= .tuple #[.agg (dj f).toArray,.int .i64 (if dC 93 (s.drop k) < 0 then 0 else ((k+(s.drop k).idxOf 93 +1:Nat):Int)),.bool (!decide (dC 93 (s.drop k) < 0) && decide (eR (fI s k) [94]≠[]))]∧(¬dC 93 (s.drop k) < 0→f=lI s k))∧Wk w w'):=by
 refine enter Tryz.func134 rfl Tryz.ntmps134 rfl ?_
 refine U (fun _ ac=>(e (al mS fun M w4 aL A q=>p aj (ae (((ac _ _ (sq (fun _ ah=> ?_)))))))))
 refine rg rfl (ab (str s) (ab (aa k) (p (kB u9 rfl rfl (by omega)) (e (cl Dx (H8 (s.drop k) 93 _) rfl fun aM w14 aA=> ?_)))))
 obtain ⟨rfl,hE14⟩:=aA
 have hdl:(s.drop k).length=s.length - k:=List.length_drop
 refine ae (((ah _ _ (sq (fun _ ai=>U (fun _ ak=>(p mv (p (lt rfl rfl) ?_))))))))
 refine ag ((ak _ _ (cd rfl (fun a=> ?_) (fun a=> ?_))))
 refine U (fun _ C=>(p (wx (ps:= []) (L:= [.int .u64 0,.int .u64 0,.int .u64 0,.int .u64 0]) wo rfl (rfl)) (e (bX kU rfl (vs:=dj (fun _=>false)) (by rw [sO]; rfl) rfl rfl (hE14.B q) (by decide) fun w3 ay an=>p aj (ae (((C _ _ ?_))))))))
 refine rt (tr (yH rfl (c8 rfl gY rfl (fun j hj=>by rw [Nat.zero_add]; exact an.aC j)) dE dE ?_))
 refine ⟨⟨fun _=>false,by rw [if_pos a,decide_eq_true a]; rfl,fun h=>absurd a h⟩,Md.trans' (Md.trans A.md hE14) ay (fun k hk h=>by omega)⟩
 have hix:=mF (c:=93) (l:=s.drop k) a
 have hbl:(fI s k).length≤s.length:=CT s k
 refine au (tn (ai _ _ (sq (fun _ C=> ?_))))
 have hbe:=CS s k
 refine rg rfl (ab (str s) (ab (aa k) (ab (aa k) (p mv (p (a9 ((k+(s.drop k).idxOf 93:Nat):Int) rfl rfl (aQ (by omega) (by omega))) (p (iN u9 rfl rfl rfl (by omega)) (e (cl Dy (Fw ((s.take (k+(s.drop k).idxOf 93)).drop k) [94] _ (by rw [hbe]; omega) (by decide)) rfl fun aN w25 Z=> ?_))))))))
 rw [hbe] at Z
 obtain ⟨rfl,hE25⟩:=Z
 have htl:=LD (fI s k) [94]
 refine p mv (p (xt rfl rfl) (p (xt rfl rfl) (p aj (ae (((C _ _ (sq (fun _ am=> ?_)))))))))
 refine rg rfl (p mv (e (cl Dz (Fa (eR (fI s k) [94]) _ (by omega)) rfl fun aO w29 aB=> ?_)))
 obtain ⟨rfl,hE29⟩:=aB
 refine e (al mS fun J w10 hb10 Y hB10=> ?_)
 have av:Wk w w10:=Md.trans A.md (Md.trans hE14 (Md.trans hE25 (Md.trans hE29 Y.md)))
 have hB4x:=Y.md.B (hE29.B (hE25.B (hE14.B q)))
 have hb4l:=hB4x.lt
 refine e (bX kU rfl (vs:=dj (fun x=>decide (x∈eR (fI s k) [94]))) rfl rfl rfl hB10 (by decide) fun w5 O G=> ?_)
 have hE5:Wk w w5:=Md.trans' av O (fun k hk h=>by have :=A.md.size; have :=hE14.size; have :=hE25.size; have :=hE29.size; omega)
 have hB4y:=O.B hB4x (fun h=>by have :=q.lt; have :=hE14.size; have :=hE25.size; have :=hE29.size; omega)
 refine ag ((am _ _ ?_))
 refine cX (fun i wC=>(bD wC.heap J (dj (lI s k)))∧(bD wC.heap M [.int .u64 0,.int .u64 0,.int .u64 0,.int .u64 0])∧(Wk w wC)∧(i 0=str s)∧(i 1=aa k)∧(i 4=aG M)∧(i 7= .int .i64 (dC 93 (s.drop k)))∧(i 8=str (eR (fI s k) [94]))∧(i 10=aG J)) ?_ ?_
 refine U (fun _ E=>(p mv (ag ((E _ _ (cb rfl (fun I=> ?_) (fun I=> ?_)))))))
 refine rg rfl (p (dx gY rfl (rfl) (fun j hj=>by rw [Nat.zero_add]; exact (G).aC j)) (e (cl sd (uw (fun x=>decide (x∈eR (fI s k) [94])) _) rfl fun aP aR aD=> ?_)))
 obtain ⟨rfl,hE32⟩:=aD
 refine e (bX kU rfl (vs:=dj (fun x=> !decide (x∈eR (fI s k) [94]))) rfl rfl rfl (hE32.B G) (Nat.le_refl 4) fun w7 V ao=> ?_)
 have hE7:Wk w w7:=Md.trans' (Md.trans hE5 hE32) V (fun k hk h=>by have :=A.md.size; have :=hE14.size; have :=hE25.size; have :=hE29.size; omega)
 have hB4z:=V.B (hE32.B hB4y) (fun h=>by have :=q.lt; have :=hE14.size; have :=hE25.size; have :=hE29.size; omega)
 exact ag ((⟨((by rw [CW (by simpa using I)]; exact ao)),hB4z,hE7,rfl,rfl,rfl,rfl,rfl,rfl⟩))
 exact au (tn (⟨((by rw [CX (by simpa using I)]; exact G)),hB4y,hE5,rfl,rfl,rfl,rfl,rfl,rfl⟩))
 rintro i wC ⟨aq,ar,ax,aE,aF,aI,aJ,aK,aH⟩
 refine fx 0 aE (fx 1 aF (fx 4 aI (fx 7 aJ (fx 8 aK (fx 10 aH (U (fun _ E=>(p (dx gY rfl (rfl) (fun j hj=>by rw [Nat.zero_add]; exact (aq).aC j)) (ab (aa k) (ab (.int .i64 (dC 93 (s.drop k))) (p (a9 ((k+(s.drop k).idxOf 93:Nat):Int) rfl rfl (aQ (by omega) (by omega))) (p (a9 ((k+(s.drop k).idxOf 93 +1:Nat):Int) rfl rfl (aQ (by omega) (by omega))) ?_))))))))))))
 refine ab (str (eR (fI s k) [94])) (p (ky rfl rfl) (e (bX kU rfl (vs:=dj (lI s k)) rfl rfl rfl ar (by decide) fun w8 az ap=> ?_)))
 have aw:Wk w w8:=Md.trans' ax az (fun k hk h=>by omega)
 refine p aj (ae (((E _ _ (rt (yH rfl (c8 rfl gY rfl (fun j hj=>by rw [Nat.zero_add]; exact ap.aC j)) dE dE ?_))))))
 refine ⟨⟨lI s k,by rw [if_neg a,decide_eq_false a]; rfl,fun _=>rfl⟩,aw⟩
theorem H7 (l:List UInt8) (a:Option Addr) (n c:Nat) (x:UInt8) (w:World) (hC:ak w.heap a (U8 l)) (hn:l.length=n) (ap:n≤1048576):
 aU Tryz.prog 154 (List.toArray [.slice a n c,.int .u8 x.toNat]) w (fun v w'=>v= .int .i64 (dC x l)∧Wk w w'):=by
 refine enter Tryz.func154 rfl Tryz.ntmps154 rfl ?_
 refine U (fun _ G=>(ae (((G _ _ (sq (fun _ I=>U (fun _ J=> ?_))))))))
 refine ab (.slice a n c) (p (ba jn rfl rfl) (p mv (ag ((J _ _ (az (lp (fun C q wI=> ∃ (i:Nat),(i≤n)∧(∀ j,j < i→l.getD j 0≠x)∧(wI=w)∧(q 0= .slice a n c)∧(q 1= .int .u8 x.toNat)∧(q 7=aa n)∧(q 8=aa i)∧(n - i=C)) _ ⟨0,(by omega),((fun j hj=>by omega)),rfl,rfl,rfl,rfl,rfl,rfl⟩ ?_)))))))
 rintro C q wI ⟨i,hi,A,ac,ai,al,am,an,rfl⟩
 refine fx 0 ai (fx 1 al (fx 7 am (fx 8 an ?_)))
 subst ac
 refine U (fun _ M=>(p (lt rfl rfl) (ag ((M _ _ (sq (fun _ O=>cd rfl (fun ah=> ?_) (fun ah=> ?_))))))))
 refine au (tn (O _ _ (sq (fun _ s=>az (U (fun _ V=>(ab (aa i) (p (bG (aa i) rfl) ?_))))))))
 refine ag ((V _ _ (U (fun _ Y=>(ab (.int .u8 x.toNat) (ab (.slice a n c) (ab (aa i) (p (aJ iK rfl rfl (by omega) (ak.ok (hC) (lh (by omega)))) ?_))))))))
 refine p (ld kQ rfl (lg (i:=i) hC (by omega))) (p (a8 rfl rfl) (ag ((Y _ _ (cd rfl (fun E=> ?_) (fun E=> ?_))))))
 have ao:l.getD i 0=x:=UInt8.toNat_inj.1 (by omega)
 refine U (fun _ Z=>(ab (aa i) (p (bG (aa i) rfl) (ag ((Z _ _ (rt (br ?_))))))))
 exact tr (tr (br (tr (f1 rfl rfl (⟨by rw [zX (show i < l.length by omega) A ao]; rfl,Md.refl _ _⟩)))))
 refine au (bn (tn (s _ _ (rg rfl (p (ad rfl rfl (bp (by omega))) (p mv (nl (tn ?_))))))))
 exact ⟨_,by omega,i+1,(by omega),((fun j hj=>by rcases Nat.lt_or_ge j i with h | h <;> first | exact A j h | (rw [show j=i by omega]; exact fun h2=>E (by rw [h2])))),rfl,rfl,rfl,rfl,rfl,rfl⟩
 refine ext (te _ (te _ (be (tn (I _ _ (U (fun _ s=>(p aj ?_))))))))
 exact ag ((s _ _ (rt (f1 rfl rfl (⟨by rw [zY (fun j hj=>A j (by omega))]; rfl,Md.refl _ _⟩)))))
theorem FT (l:List UInt8) (i j:Nat) (B n cp gg:Nat) (w:World) (s:World.ownsRow w B 5 1 (.slice (some ⟨gg,0,none⟩) n cp) n (U8 l)) (ai:i < j∧j≤n) (al:n≤1048576):
 aU Tryz.prog 155 (List.toArray [.slice (some ⟨gg,0,none⟩) n cp,aa i,aa j]) w (fun v w'=>v= .slice (some ⟨gg,0,none⟩) (i+(n - j)) cp∧World.ownsRow w' B 5 1 (.slice (some ⟨gg,0,none⟩) (i+(n - j)) cp) (i+(n - j)) (U8 (l.take i++l.drop j))∧Md (fun q=>q=gg) w w'):=by
 have hln:=vj s
 have hcp:=(aI s).1
 refine enter Tryz.func155 rfl Tryz.ntmps155 rfl ?_
 refine U (fun _ A=>(ae (((A _ _ (U (fun _ C=>(ab (.slice (some ⟨gg,0,none⟩) n cp) ?_))))))))
 refine ab (aa i) (ab (aa j) (ab (.slice (some ⟨gg,0,none⟩) n cp) (p (ba jn rfl rfl) (p (KW iK rfl rfl rfl rfl (by omega)) (ag ((C _ _ (sq (fun _ E=> ?_)))))))))
 refine U (fun _ G=>(ab (aa i) (ab (aa j) (p (a8 rfl rfl) (ag ((G _ _ (cd rfl (fun h=>absurd h (by omega)) (fun ah=> ?_)))))))))
 refine au (tn (E _ _ (U (fun _ I=>(ab (.slice (some ⟨gg,0,none⟩) n cp) (p (ba jn rfl rfl) (p aj (nl ?_))))))))
 refine tn (I _ _ (sq (fun _ J=> ?_)))
 have a:(fun w'=>Wk w w') w.drew:=(Md.refl _ _).drew
 refine dG (fun w'=>Wk w w') 6 rfl wide a (a3 0 rfl (.slice (some ⟨gg,0,none⟩) n cp) a (a3 1 rfl (aa i) a (a5 2 rfl (fun _=>oM iK rfl rfl (by omega)) (fun _=>a) (a3 3 rfl (.slice (some ⟨gg,0,none⟩) n cp) a (a3 4 rfl (aa j) a (a5 5 rfl (fun _=>oN iK rfl rfl (by omega)) (fun _=>a) (cD 6 rfl (by kernel_rfl) (by kernel_rfl) (CO (B:=B) (xs:=U8 (l.take i)) (news:=U8 (l.drop j)) (n:=i) (m:=n - j) eQ (ux (aE s a) (by omega) (by omega)) rfl rfl (show ak _ (ed (some ⟨gg,0,none⟩) cp j 1) (U8 (l.drop j)) from LN (aE s a)) (by unfold ed; split <;> simp) (by rw [pc,List.length_drop]; omega) (Cu _) (by omega) fun w26 V Z=> ?_))))))))
 refine a5 7 rfl (fun _=>aj) (fun h=>Bool.noConfusion ((show true =_ from by kernel_rfl).trans h)) (dF (by kernel_rfl) ?_)
 refine tn (J _ _ (U (fun _ M=>(ab (.slice (some ⟨gg,0,none⟩) (i+(n - j)) cp) (ab (.slice (some ⟨gg,0,none⟩) (i+(n - j)) cp) (p (ba jn rfl rfl) (p mv (p (KX iK rfl rfl rfl (by omega)) ?_))))))))
 refine e (EX jn Mv rfl Z (by simp) rfl (by omega) fun w6 Y ac=>ag ((M _ _ (U (fun _ O=>(ab (.slice (some ⟨gg,0,none⟩) (i+(n - j)) cp) (p (bG (.slice (some ⟨gg,0,none⟩) (i+(n - j)) cp) rfl) (nl ?_))))))))
 exact tn (O _ _ (rt (f1 rfl rfl (⟨rfl,by rw [o8]; exact ac,Md.trans (a.mono (fun _ _ h=>h.elim)) (Md.trans V (Y.mono (fun q _ h=>by simpa [Value.ownBlock] using h.symm)))⟩))))
end Go.Hb.kN
end
section
set_option maxRecDepth 20000
set_option maxHeartbeats 1000000
namespace Go.Hb.lx
open Go.Hb.di
open Go.Proofs
open Go.Hb.fQ Go.Hb.kN
theorem wz {s:List UInt8} {k:Nat} (h:(s.drop k).idxOf 93 < (s.drop k).length):eR (fI s k) [94]≠[]↔(s.drop k).idxOf 93≠0∧¬((s.drop k).idxOf 93=1∧(s.drop k).getD 0 0=94):=by
 unfold fI eR
 generalize hl:s.drop k=l at*
 cases l with
 | nil=>simp at h
 | cons b r=>
   generalize hm:(b::r).idxOf 93=m at*
   cases m with
   | zero=>simp
   | succ m=>
     simp only [List.length_cons] at h
     simp only [List.take_succ_cons,List.length_singleton,List.take_zero,List.getD_cons_zero,List.drop_succ_cons,List.drop_zero]
     by_cases hb:b=94
     · subst hb
       rw [if_pos rfl]
       cases m with
       | zero=>simp
       | succ m=>
         cases r with
         | nil=>simp at h
         | cons x r=>simp
     · rw [if_neg (by simpa using hb)]
       simp [hb]
theorem CY {s:List UInt8} {k:Nat} (h:(s.drop k).idxOf 93 < (s.drop k).length) (h0:(s.drop k).idxOf 93≠0):lI s k=bF (91::(s.drop k).take ((s.drop k).idxOf 93 +1)):=by
 funext x
 unfold lI fI eR bF
 generalize hl:s.drop k=l at*
 cases l with
 | nil=>simp at h
 | cons b r=>
   generalize hm:(b::r).idxOf 93=m at*
   cases m with
   | zero=>exact absurd rfl h0
   | succ m=>
     simp only [List.length_cons] at h
     have hln:(91::List.take (m+1 +1) (b::r)).length=m+3:=by simp only [List.length_cons,List.length_take]; omega
     rw [hln,if_neg (show ¬m+3=1 by omega)]
     have a:(91::List.take (m+1 +1) (b::r)).getD 1 0=b:=rfl
     have i:List.take (m+3 - 1) (91::List.take (m+1 +1) (b::r))=91::List.take (m+1) (b::r):=by
      show List.take (m+2) (91::List.take (m+2) (b::r))=_
      rw [List.take_succ_cons,List.take_take,Nat.min_eq_left (by omega)]
     rw [a,i]
     simp only [List.take_succ_cons,List.take_zero,List.drop_succ_cons,List.drop_zero,List.length_singleton]
     by_cases hb:b=94
     · subst hb; simp
     · simp [hb]
theorem F6:(fun x:UInt8=> !(fun _:UInt8=>false) x)=bF [46]:=by funext x; simp [bF]
theorem Jv {c:UInt8} (h:c≠46):(fun x:UInt8=>(fun _:UInt8=>false) x || decide (x=c))=bF [c]:=by
 funext x
 simp only [bF,List.length_singleton,if_true,Bool.false_or,List.getD_cons_zero]
 exact decide_eq_decide.2 ⟨fun h1=> .inr h1.symm,fun h1=>(h1.resolve_left h).symm⟩
theorem E3 {ps:List (List UInt8)} (h:0 < ps.length):iZ ps≠[]:=y0 (f:=fun t=>dj (bF t)) (m:=4) (fun _=>rfl) (by decide) h
theorem E2 {h:Array Obj} {a:Option Addr} {ps:List (List UInt8)} {i:Nat} (hc:ak h a (iZ ps)) (hi:i < ps.length):∀ j,j < 4→Hb.aC h (bk a) (fo a+i*4 +j)=(dj (bF (ps.getD i [])))[j]? :=by
 have :=gi (f:=fun t=>dj (bF t)) (m:=4) (fun _=>rfl) hc (List.getElem?_eq_getElem hi)
 rw [List.getD_eq_getElem?_getD,List.getElem?_eq_getElem hi]; exact this
theorem qI {b:UInt8} (h:(b.toNat:Int)=91):b=91:=UInt8.toNat_inj.1 (by have :(91:UInt8).toNat=91:=rfl; omega)
theorem oC {b:UInt8} (h:¬(b.toNat:Int)=91):b≠91:=by rintro rfl; exact h rfl
theorem tT {b:UInt8} (h:(b.toNat:Int)=46):b=46:=UInt8.toNat_inj.1 (by have :(46:UInt8).toNat=46:=rfl; omega)
theorem um {b:UInt8} (h:¬(b.toNat:Int)=46):b≠46:=by rintro rfl; exact h rfl
theorem AD {w:World} {B:Nat} {v:Value} {l:List (List UInt8)} {x:List UInt8} (h:w.ownsRow B 227 4 v (l.length+1) (iZ l++dj (bF x))):w.ownsRow B 227 4 v (l++ [x]).length (iZ (l++ [x])):=by
 rw [List.length_append,E1]; simpa [iZ] using h
theorem FU (l:List UInt8) (i j:Nat) (a p:Int) (B n cp gg:Nat) (w:World) (s:World.ownsRow w B 5 1 (.slice (some ⟨gg,0,none⟩) n cp) n (U8 l)) (A:i < j∧j≤n) (C:n≤1048576) (hi:a=(i:Nat)) (hj:p=(j:Nat)):
 aU Tryz.prog 155 (List.toArray [.slice (some ⟨gg,0,none⟩) n cp,.int .i64 a,.int .i64 p]) w (fun v w'=>v= .slice (some ⟨gg,0,none⟩) (i+(n - j)) cp∧World.ownsRow w' B 5 1 (.slice (some ⟨gg,0,none⟩) (i+(n - j)) cp) (i+(n - j)) (U8 (l.take i++l.drop j))∧Md (fun q=>q=gg) w w'):=by
 subst hi hj; exact FT l i j B n cp gg w s A C
theorem KN (f:UInt8→Bool) (w:World):
 aU Tryz.prog 137 (List.toArray [.agg (dj (f)).toArray]) w (fun v w'=>v=str (eO f)∧Wk w w'):=by
 have hbl:(bytesOf f).length≤256:=lJ f 256
 have bd:(bytesOf (fun x=> !f x)).length≤256:=lJ _ 256
 refine enter Tryz.func137 rfl Tryz.ntmps137 rfl ?_
 refine U (fun _ aA=>(e (jo rfl fun aL w1 ag J hB1=>ae (((aA _ _ (U (fun _ aD=> ?_))))))))
 refine p (dx gY rfl (rfl) (fun j hj=>by rw [Nat.zero_add]; exact (hB1).aC j)) (e (cl xm (wT f _) rfl fun v6 w6 hR6=> ?_))
 obtain ⟨V,ac⟩:=hR6
 obtain ⟨q,a,rfl⟩:=bU V
 have hC6:=(aI V).2
 have I:Wk w w6:=Md.trans J.md ac
 have hB6:=ac.B hB1
 refine ae (((aD _ _ (sq (fun _ aF=>az (U (fun _ aH=>(ab (.slice q (bytesOf f).length a) ?_))))))))
 refine p (ba jn rfl rfl) (p (a8 rfl rfl) (ae (((aH _ _ (cd rfl (fun aY=> ?_) (fun aY=> ?_)))))))
 refine U (fun _ A=>(ae (((A _ _ (rt (br (tr ?_))))))))
 exact f1 rfl rfl (⟨by unfold eO; rw [if_pos (show (bytesOf f).length=256 by omega)]; rfl,I⟩)
 refine cX (fun Z ax=> ∃ (aa:Bool),(aa=decide ((bytesOf f).length=1∧(bytesOf f).getD 0 0≠46∧(bytesOf f).getD 0 0≠91))∧(ax=w6)∧(Z 1=aG aL)∧(Z 3= .slice q (bytesOf f).length a)∧(Z 11= .bool aa)) ?_ ?_
 refine rg rfl (ab (.slice q (bytesOf f).length a) (p (ba jn rfl rfl) (p (a8 rfl rfl) (p mv (gs (t:=15) rfl (fun aZ=> ?_) (fun aZ=> ?_))))))
 refine pg rfl rfl rfl (aB (.slice q (bytesOf f).length a) rfl) (pg rfl rfl rfl (aJ iK rfl rfl (by omega) (ak.ok (hC6) (lh (by omega)))) (pg rfl rfl rfl (ld kQ rfl (lg (i:=0) hC6 (by omega))) (pg rfl rfl rfl (bP rfl rfl) (p (bf rfl) (p mv (gs (t:=21) rfl (fun aq=> ?_) (fun aq=> ?_)))))))
 refine pg rfl rfl rfl (aB (.slice q (bytesOf f).length a) rfl) (pg rfl rfl rfl (aJ iK rfl rfl (by omega) (ak.ok (hC6) (lh (by omega)))) (pg rfl rfl rfl (ld kQ rfl (lg (i:=0) hC6 (by omega))) (pg rfl rfl rfl (bP rfl rfl) (p (bf rfl) (p aj (nl (tn ?_)))))))
 exact ⟨_,((by first | exact decide_eq_decide.2 ⟨fun h=>⟨by omega,by first | exact um (by omega) | exact fun h=>by omega,by first | exact oC (by omega) | exact fun h=>by omega⟩,fun h=>by have h1:=h.2.2; exact fun h2=>h1 (qI h2)⟩ | rfl)),rfl,rfl,rfl,rfl⟩
 refine sk rfl rfl rfl rfl (sk rfl rfl rfl rfl (sk rfl rfl rfl rfl (sk rfl rfl rfl rfl (p (a4 rfl) (p aj (nl (tn ?_)))))))
 exact ⟨false,((decide_eq_false (fun h=>h.2.1 (tT (Decidable.of_not_not aq)))).symm),rfl,rfl,rfl,rfl⟩
 refine sk rfl rfl rfl rfl (sk rfl rfl rfl rfl (sk rfl rfl rfl rfl (sk rfl rfl rfl rfl (p (a4 rfl) (p mv (sk rfl rfl rfl rfl (sk rfl rfl rfl rfl ?_)))))))
 exact sk rfl rfl rfl rfl (sk rfl rfl rfl rfl (p (a4 rfl) (ae (((⟨false,((decide_eq_false (fun h=>by omega)).symm),rfl,rfl,rfl,rfl⟩))))))
 rintro Z ax ⟨aa,ag,aP,a2,a5,a3⟩
 refine fx 1 a2 (fx 3 a5 (fx 11 a3 ?_))
 subst aP
 refine cb rfl (fun ah=> ?_) (fun ah=> ?_)
 have Y:(bytesOf f).length=1∧(bytesOf f).getD 0 0≠46∧(bytesOf f).getD 0 0≠91:=of_decide_eq_true (ag ▸ ah)
 refine U (fun _ A=>(ab (.slice q (bytesOf f).length a) (p (jt jq rfl (hC6) (by simp)) (ae (((A _ _ (rt ?_))))))))
 exact br (tr (f1 rfl rfl (⟨by unfold eO; rw [if_neg (show ¬(bytesOf f).length=256 by omega),if_pos Y]; rfl,I⟩)))
 have Y:¬((bytesOf f).length=1∧(bytesOf f).getD 0 0≠46∧(bytesOf f).getD 0 0≠91):=of_decide_eq_false (ag ▸ ah)
 refine U (fun _ A=>(p (dx gY rfl (rfl) (fun j hj=>by rw [Nat.zero_add]; exact (hB6).aC j)) (e (cl xn (zD f 93 _ _ rfl) rfl fun bi w31 aR=> ?_))))
 obtain ⟨rfl,hE31⟩:=aR
 refine ae (((A _ _ (cb rfl (fun ai=> ?_) (fun ai=> ?_)))))
 refine U (fun _ C=>(p (dx gY rfl (rfl) (fun j hj=>by rw [Nat.zero_add]; exact (hE31.B hB6).aC j)) (e (cl sd (uw f _) rfl fun bj w33 aS=> ?_))))
 obtain ⟨rfl,aN⟩:=aS
 refine e (cl xm (wT (fun x=> !f x) _) rfl fun bk bq aT=> ?_)
 obtain ⟨av,hE34⟩:=aT
 obtain ⟨a7,bb,rfl⟩:=bU av
 refine p (jt jq rfl ((aI av).2) (rfl)) (p (cc rfl rfl (by simp only [List.length_cons,List.length_nil]; omega)) (p (cc rfl rfl (by simp only [List.length_cons,List.length_nil,List.length_append]; omega)) (ae (((C _ _ (rt (br ?_))))))))
 exact tr (f1 rfl rfl (⟨by unfold eO; rw [if_neg (show ¬(bytesOf f).length=256 by omega),if_neg Y,if_pos ai]; rfl,Md.trans I (Md.trans hE31 (Md.trans aN hE34))⟩))
 refine au (bn (tn (aF _ _ ?_)))
 refine cX (fun ay wC=> ∃ (E:Option Addr) (s G:Nat),(((bytesOf f).filter (fun b=>decide (b≠94))++(if 94∈(bytesOf f) then [94] else [])).length=s)∧(World.ownsRow wC w1.heap.size 5 1 (.slice E s G) s (U8 ((bytesOf f).filter (fun b=>decide (b≠94))++(if 94∈(bytesOf f) then [94] else []))))∧(Wk w wC)∧(s≤300)∧(ay 3= .slice E s G)) ?_ ?_
 refine U (fun _ C=>(ab (.slice q (bytesOf f).length a) (e (cl DA (H7 (bytesOf f) q _ a 94 _ (hC6.wk hE31) rfl (by omega)) rfl fun bl w39 aV=> ?_))))
 obtain ⟨rfl,hE39⟩:=aV
 have ao:Wk w w39:=Md.trans I (Md.trans hE31 hE39)
 refine ae (((C _ _ (U (fun _ aK=>(p mv (p (ge rfl rfl) (nl ?_))))))))
 refine tn (aK _ _ (cd rfl (fun aX=> ?_) (fun aX=> ?_)))
 have hix:=mF (c:=94) (l:=bytesOf f) (by omega)
 have ho39:=aE (aE V hE31) hE39
 obtain ⟨gg,rfl⟩:=JG ho39 (by omega)
 refine rg rfl (ab (.slice (some ⟨gg,0,none⟩) (bytesOf f).length a) (p mv (p mv (p (ad rfl rfl (bp (by omega))) (e (cl DB (FU (bytesOf f) ((bytesOf f).idxOf 94) ((bytesOf f).idxOf 94 +1) _ _ w1.heap.size _ a gg _ ho39 (by omega) (by omega) (by omega) (by omega)) rfl fun bm w46 aW=> ?_))))))
 obtain ⟨rfl,al,hM46⟩:=aW
 have hE46:Wk w w46:=Md.trans' ao hM46 (fun k hk h=>by have :=c7 ho39 (show (Value.slice (some ⟨gg,0,none⟩) _ a).ownBlock=some gg from rfl); have :=J.md.size; omega)
 have hlx:=vj al
 refine e (ea eQ rfl rfl fun a9 bs bc M aM=>e (ap eQ (aE al M.md) rfl (by have :=J.md.size; have :=ac.size; have :=hE31.size; have :=hE39.size; have :=hM46.size; have :=M.md.size; omega) rfl (ak.cQ aM) (rfl) (rfl) (by omega) (by omega) fun bo w48 am aQ bh bg=> ?_))
 have hE48:=Wk.own (Md.trans hE46 M.md) (aE al M.md) aQ J.md.size
 rw [H0 (C4 f) hix.2] at hlx am
 obtain ⟨an,c2,rfl⟩:=bU am
 have aw:World.ownsRow w48 w1.heap.size 5 1 (.slice an (((bytesOf f).idxOf 94 +((bytesOf f).length - ((bytesOf f).idxOf 94 +1)))+1) c2) (((bytesOf f).idxOf 94 +((bytesOf f).length - ((bytesOf f).idxOf 94 +1)))+1) (U8 ((bytesOf f).filter (fun b=>decide (b≠94))++ [94])):=by rw [o8]; exact am
 exact ae (((⟨an,_,c2,((by have :=vj aw; rw [if_pos (List.idxOf_lt_length_iff.1 hix.2)]; exact this)),((by rw [if_pos (List.idxOf_lt_length_iff.1 hix.2)]; exact aw)),hE48,((by omega)),rfl⟩)))
 have O:¬(94:UInt8)∈bytesOf f:=fun h=>by have h1:dC 94 (bytesOf f)=(bytesOf f).idxOf 94:=if_pos (List.idxOf_lt_length_iff.2 h); omega
 exact au (tn (⟨q,(bytesOf f).length,a,((by rw [if_neg O,Ao O,List.append_nil])),((by rw [if_neg O,Ao O,List.append_nil]; exact aE (aE V hE31) hE39)),ao,((by omega)),rfl⟩))
 rintro ay wC ⟨E,s,G,ar,a1,aO,a0,a6⟩
 refine fx 3 a6 ?_
 have hF3:((bytesOf f).filter (fun b=>decide (b≠94))++(if 94∈(bytesOf f) then [94] else [])).length≤300:=by rw [ar]; exact a0
 refine U (fun _ C=>(ab (.slice E s G) (p (jt jq rfl ((aI a1).2) (ar)) (p (cc rfl rfl (Nat.le_trans (Nat.add_le_add_left hF3 _) (by decide))) (p (cc rfl rfl (by rw [List.length_append]; exact Nat.le_trans (Nat.add_le_add_right (Nat.add_le_add_left hF3 _) _) (by decide))) (p aj (nl ?_)))))))
 exact tn (C _ _ (rt (f1 rfl rfl (⟨by unfold eO; rw [if_neg (show ¬(bytesOf f).length=256 by omega),if_neg Y,if_neg (show ¬f 93=true from by rw [ai]; exact Bool.noConfusion)]; rfl,aO⟩))))
theorem Fk (s:List UInt8) (w:World) (hs:s.length≤1048576):
 aU Tryz.prog 120 (List.toArray [str s]) w (fun v w'=>(∃ a,v= .tuple #[.agg [a].toArray,aa ((cA s).2)]∧World.ownsRow w' w.heap.size 227 4 (a) ((cA s).1).length (iZ ((cA s).1)))∧Wk w w'):=by
 refine enter Tryz.func120 rfl Tryz.ntmps120 rfl ?_
 refine U (fun _ bb=>(e (fH vz fun aq cq hb2 M hB2=>ae (((bb _ _ (sq (fun _ bi=>sq (fun _ aY=> ?_)))))))))
 refine rg rfl (ab (str s) (p (cG rfl rfl) (p mv (gs (t:=10) rfl (fun hg10=> ?_) (fun hg10=> ?_)))))
 refine sk rfl rfl rfl rfl (sk rfl rfl rfl rfl (sk rfl rfl rfl rfl (p (bf rfl) (ag ((aY _ _ (ct rfl (sq (fun _ Y=> ?_)))))))))
 refine rg rfl (p (bY (ps:= []) (L:= [.slice none 0 0]) oQ rfl (rfl)) (e (fV my rfl (vs:= [.slice none 0 0]) rfl rfl rfl hB2 (by decide) fun w9 hM9 q=> ?_)))
 have A:Wk w w9:=Md.trans' M.md hM9 (fun k hk h=>by omega)
 exact ae (((Y _ _ (rt (tr (dO rfl (c8 (cs:= [.slice none 0 0]) rfl lD rfl (fun j hj=>(by cases j with | zero=>exact (aO q).trans rfl | succ j=>omega))) dE (⟨⟨.slice none 0 0,by unfold cA; rw [if_pos (.inl hg10)]; rfl,by unfold cA; rw [if_pos (.inl hg10)]; exact World.ownsRow_nil _ _ _ _⟩,A⟩)))))))
 refine pg rfl rfl rfl (aB (str s) rfl) (pg rfl rfl rfl (bI u9 rfl rfl) (pg rfl rfl rfl (gt rfl rfl) (p (a4 rfl) (ag ((aY _ _ (cd rfl (fun bO=> ?_) (fun bO=> ?_))))))))
 refine U (fun _ Y=>(p (bY (ps:= []) (L:= [.slice none 0 0]) oQ rfl (rfl)) (e (fV my rfl (vs:= [.slice none 0 0]) rfl rfl rfl hB2 (by decide) fun w9 hM9 q=> ?_))))
 have A:Wk w w9:=Md.trans' M.md hM9 (fun k hk h=>by omega)
 exact ae (((Y _ _ (rt (tr (dO rfl (c8 (cs:= [.slice none 0 0]) rfl lD rfl (fun j hj=>(by cases j with | zero=>exact (aO q).trans rfl | succ j=>omega))) dE (⟨⟨.slice none 0 0,by unfold cA; rw [if_pos (.inr (by omega))]; rfl,by unfold cA; rw [if_pos (.inr (by omega))]; exact World.ownsRow_nil _ _ _ _⟩,A⟩)))))))
 refine au (tn (bi _ _ (sq (fun _ Y=>U (fun _ bj=>(ab (str s) (p (cG rfl rfl) (nl ?_))))))))
 refine tn (bj _ _ (cd rfl (fun O=> ?_) (fun O=> ?_)))
 refine U (fun _ aN=>(p (bY (ps:= []) (L:= [.slice none 0 0]) oQ rfl (rfl)) (e (fV my rfl (vs:= [.slice none 0 0]) rfl rfl rfl hB2 (by decide) fun w9 hM9 q=> ?_))))
 have A:Wk w w9:=Md.trans' M.md hM9 (fun k hk h=>by omega)
 refine ae (((aN _ _ (rt (tr (dO rfl (c8 (cs:= [.slice none 0 0]) rfl lD rfl (fun j hj=>(by cases j with | zero=>exact (aO q).trans rfl | succ j=>omega))) dE ?_))))))
 have a5:¬(s= []∨512 < s.length):=fun h=>h.elim hg10 (fun h=>by omega)
 exact ⟨⟨.slice none 0 0,by unfold cA; rw [if_neg a5,if_pos O]; rfl,by unfold cA; rw [if_neg a5,if_pos O]; exact World.ownsRow_nil _ _ _ _⟩,A⟩
 refine au (tn (Y _ _ (U (fun _ aN=>(e (fH vz fun Z w4 cc a3 bv=> ?_))))))
 have hE4:Wk w w4:=Md.trans M.md a3.md
 have hb2l:=(Array.getElem?_eq_some_iff.1 hB2).1
 have hB2x:=a3.md.az hB2
 have hs:=hs
 refine ag ((aN _ _ (sq (fun _ bk=>U (fun _ bl=>(ae (((bl _ _ ?_)))))))))
 refine az (lp (fun aZ ao wI=> ∃ (i:Nat) (dn:List (List UInt8)) (an:Value),(i≤s.length∧dn.length≤i)∧(gy s i dn)∧(wI.heap[Z]? =some (.cells [an].toArray 213 (0,0)))∧(wI.heap[aq]? =some (.cells [.slice none 0 0].toArray 213 (0,0)))∧(World.ownsRow wI w.heap.size 227 4 (an) (dn).length (iZ (dn)))∧(Wk w wI)∧(ao 0=str s)∧(ao 2=aG aq)∧(ao 4=aG Z)∧(ao 5=aa i)∧(s.length - i=aZ)) _ ⟨0,[],.slice none 0 0,((by simp)),(gy.start s),bv,hB2x,(World.ownsRow_nil _ _ _ _),hE4,rfl,rfl,rfl,(by first | rfl | exact iv (if_neg am)),rfl⟩ ?_)
 rintro aZ ao wI ⟨i,dn,an,hi,aI,av,ah,G,I,bT,bV,bZ,b0,rfl⟩
 refine fx 0 bT (fx 2 bV (fx 4 bZ (fx 5 b0 (sq (fun _ bm=>U (fun _ bc=>(ab (aa i) (ab (str s) (p (bI u9 rfl rfl) (p (lt rfl rfl) ?_))))))))))
 refine ag ((bc _ _ (cd rfl (fun bP=> ?_) (fun bP=> ?_))))
 refine au (tn (bm _ _ (az (U (fun _ aJ=>(e (al mS fun ac w6 hb6 aF hB6=> ?_)))))))
 have ar:bD w6.heap ac (dj (fun _=>false)):=by rw [sO]; exact hB6
 have aS:Wk w w6:=Md.trans I aF.md
 have hBp6:=aF.md.az av
 have hBz6:=aF.md.az ah
 have hol6:=aE G aF.md
 have hb6:ac=wI.heap.size:=hb6
 have hI4:=(Array.getElem?_eq_some_iff.1 av).1
 have hI2:=(Array.getElem?_eq_some_iff.1 ah).1
 have hdi:=drop_cons (l:=s) (i:=i) 0 (by omega)
 refine ag ((aJ _ _ (U (fun _ aK=>(ae (((aK _ _ ?_))))))))
 refine cX (fun V wC=>(s.getD i 0≠91)∧(bD wC.heap ac (dj (bF [s.getD i 0])))∧(wC.heap[Z]? =some (.cells [an].toArray 213 (0,0)))∧(wC.heap[aq]? =some (.cells [.slice none 0 0].toArray 213 (0,0)))∧(World.ownsRow wC w.heap.size 227 4 (an) (dn).length (iZ (dn)))∧(Wk w wC)∧(V 0=str s)∧(V 2=aG aq)∧(V 4=aG Z)∧(V 5=aa i)∧(V 6=aG ac)) ?_ ?_
 refine U (fun _ C=>(ab (str s) (ab (aa i) (p (dA u9 rfl rfl (by omega)) (ag ((C _ _ (az ?_))))))))
 refine U (fun _ bd=>(p (a8 rfl rfl) (ae (((bd _ _ (cd rfl (fun aH=> ?_) (fun aH=> ?_))))))))
 refine sq (fun _ aL=>U (fun _ bg=>(ab (str s) (ab (aa i) (p (a9 ((i+1:Nat):Int) rfl rfl (aQ (by omega) (by omega))) (e (cl Ds (CU s (i+1) _ hs (by omega)) rfl fun co w36 bM=> ?_)))))))
 obtain ⟨⟨bq,rfl,bR⟩,hE36⟩:=bM
 have bJ:Wk w w36:=Md.trans aS hE36
 have hb91:=qI aH
 refine p mv (p (xt rfl rfl) (p (xt rfl rfl) (p (xt rfl rfl) (e (bX kU rfl (vs:=dj bq) rfl rfl rfl (hE36.B ar) (by decide) fun w13 aw a0=> ?_)))))
 have a2:Wk w w13:=Md.trans' bJ aw (fun k hk h=>by have :=I.size; omega)
 have hs36:=hE36.size
 have hBp13:=aw.az (hE36.az hBp6) (fun h=>by omega)
 have hBz13:=aw.az (hE36.az hBz6) (fun h=>by omega)
 have hol13:=bW (aE hol6 hE36) aw (fun k hk h=>by have :=c7 G hk; omega)
 have hdl:(s.drop (i+1)).length=s.length - (i+1):=List.length_drop
 refine p aj (ae (((bg _ _ (U (fun _ bh=>(p mv (p (no rfl) ?_))))))))
 refine ag ((bh _ _ (cb rfl (fun E=> ?_) (fun E=> ?_))))
 have ai:eU (s.drop i)=none:=by
  rw [hdi,hb91]
  refine pT rfl (fun h=> ?_)
  have b6:¬dC 93 (s.drop (i+1)) < 0:=by rw [show dC 93 (s.drop (i+1))=(s.drop (i+1)).idxOf 93 from if_pos h.1]; omega
  have hy:=(wz (s:=s) (k:=i+1) h.1).2 h.2
  rw [decide_eq_false b6,decide_eq_true hy] at E; cases E
 have hcr:=aI.bad (by omega) ai
 refine U (fun _ aM=>(p (bY (ps:= []) (L:= [.slice none 0 0]) oQ rfl (rfl)) (e (fV my rfl (vs:= [.slice none 0 0]) rfl rfl rfl hBz13 (by decide) fun w9 hM9 q=> ?_))))
 have A:Wk w w9:=Md.trans' a2 hM9 (fun k hk h=>by omega)
 refine ae (((aM _ _ (rt (tr (br (tr (br ?_))))))))
 refine tr (br (tr (dO rfl (c8 (cs:= [.slice none 0 0]) rfl lD rfl (fun j hj=>(by cases j with | zero=>exact (aO q).trans rfl | succ j=>omega))) dE ?_)))
 have hz:cA s=([],41):=by unfold cA; rw [if_neg (fun h=>h.elim hg10 (fun h=>by omega)),if_neg O,hcr]
 exact ⟨⟨.slice none 0 0,by rw [hz]; rfl,by rw [hz]; exact World.ownsRow_nil _ _ _ _⟩,A⟩
 have am:¬dC 93 (s.drop (i+1)) < 0:=fun h=>by rw [decide_eq_true h] at E; cases E
 have b7:eR (fI s (i+1)) [94]≠[]:=fun h=>by rw [h] at E; simp at E
 have hix:=mF am
 have hyk:=(wz (s:=s) (k:=i+1) hix.2).1 b7
 obtain rfl :=bR am
 rw [CY hix.2 hyk.1] at a0
 have ai:eU (s.drop i)=some (91::(s.drop (i+1)).take ((s.drop (i+1)).idxOf 93 +1),(s.drop (i+1)).drop ((s.drop (i+1)).idxOf 93 +1)):=by rw [hdi,hb91]; exact sI rfl hix.2 hyk.1 hyk.2
 have hgo2:=aI.step (j:=i+1 +(s.drop (i+1)).idxOf 93 +1) ai (by rw [List.drop_drop]; rfl)
 have cj:(s.drop (i+1)).idxOf 93 < s.length - (i+1):=by have :=hix.2; omega
 refine au (tn (aL _ _ (U (fun _ aM=>(p (fa mC rfl) (p (ld nR rfl ((aO hBp13).trans rfl)) (p (dx gY rfl (rfl) (fun j hj=>by rw [Nat.zero_add]; exact (a0).aC j)) (e (ib rh rfl rfl rfl fun bo w46 ce aA bw=> ?_)))))))))
 have bx:bD w46.heap bo (dj (bF (91::(s.drop (i+1)).take ((s.drop (i+1)).idxOf 93 +1)))):=bw
 have hE46:Wk w w46:=Md.trans a2 aA.md
 have hol46:=aE hol13 aA.md
 have hBp46:=aA.md.az hBp13
 have hBz46:=aA.md.az hBz13
 refine e (ap rh (hol46) rfl (by have :=hE46.size; omega) rfl (ak.cQ bx) (rfl) (xP _) (by omega) (by omega) fun b8 cr a6 aV ck ch=> ?_)
 have ho47x:=AD a6
 have hBp47:=aV.az hBp46 (fun h=>cg hol46 hBp46 (by decide) h)
 have hBz47:=aV.az hBz46 (fun h=>cg hol46 hBz46 (by decide) h)
 have hE47:=Wk.own hE46 hol46 aV (Nat.le_refl _)
 refine p (fa mC rfl) (e (ca x2 rfl rfl (dT a6) hBp47 (by simp) fun w16 hM16 bs=> ?_))
 have bE:Wk w w16:=Md.trans' hE47 hM16 (fun k hk h=>by have :=M.md.size; omega)
 exact ag ((aM _ _ (ext (kj (by decide) (te _ (be (tn (⟨_,by omega,i+1 +(s.drop (i+1)).idxOf 93 +1,dn++ [91::(s.drop (i+1)).take ((s.drop (i+1)).idxOf 93 +1)],b8,((by rw [List.length_append,List.length_singleton]; omega)),hgo2,bs,(hM16.az hBz47 (fun h=>by omega)),(bW ho47x hM16 (fun k hk h=>cg ho47x hBp47 (by decide) (h ▸ hk))),bE,rfl,rfl,rfl,(by first | rfl | exact iv (if_neg am)),rfl⟩))))))))
 refine U (fun _ aL=>(p (a8 rfl rfl) (ae (((aL _ _ (cd rfl (fun aX=> ?_) (fun aX=> ?_))))))))
 refine rg rfl (p (dx gY rfl (rfl) (fun j hj=>by rw [Nat.zero_add]; exact (ar).aC j)) (e (cl sd (uw (fun _=>false) _) rfl fun cp w52 bN=> ?_)))
 obtain ⟨rfl,J⟩:=bN
 refine e (bX kU rfl (vs:=dj (fun x=> !(fun _:UInt8=>false) x)) rfl rfl rfl (J.B ar) (by decide) fun w18 ax hB18=> ?_)
 have hs52:=J.size
 have bG:Wk w w18:=Md.trans' (Md.trans aS J) ax (fun k hk h=>by have :=I.size; omega)
 have hBp18:=ax.az (J.az hBp6) (fun h=>by omega)
 have hBz18:=ax.az (J.az hBz6) (fun h=>by omega)
 have hol18:=bW (aE hol6 J) ax (fun k hk h=>by have :=c7 G hk; omega)
 exact nl (bn (tn (⟨(oC aH),((by rw [tT aX,← F6]; exact hB18)),hBp18,hBz18,hol18,bG,rfl,rfl,rfl,rfl,rfl⟩)))
 refine rg rfl (ab (str s) (ab (aa i) (p (dA u9 rfl rfl (by omega)) (e (cl xi (AO ac (s.getD i 0) _ _ ar) rfl fun cn w29 bL=> ?_)))))
 obtain ⟨rfl,bu,ay⟩:=bL
 have hE29:Wk w w29:=Md.trans' aS ay (fun k hk h=>by have :=I.size; omega)
 have hBp29:=ay.az hBp6 (fun h=>by omega)
 have hBz29:=ay.az hBz6 (fun h=>by omega)
 have hol29:=bW hol6 ay (fun k hk h=>by have :=c7 G hk; omega)
 exact nl (bn (tn (⟨(oC aH),((by rw [← Jv (um aX)]; exact bu)),hBp29,hBz29,hol29,hE29,rfl,rfl,rfl,rfl,rfl⟩)))
 rintro V wC ⟨hn91,bB,a1,bC,bS,bK,b1,b2,b3,b4,b5⟩
 refine fx 0 b1 (fx 2 b2 (fx 4 b3 (fx 5 b4 (fx 6 b5 (U (fun _ C=>(p (fa mC rfl) (p (ld nR rfl ((aO a1).trans rfl)) (p (dx gY rfl (rfl) (fun j hj=>by rw [Nat.zero_add]; exact (bB).aC j)) (e (ib rh rfl rfl rfl fun bp w56 cf aD bz=> ?_)))))))))))
 have bA:bD w56.heap bp (dj (bF [s.getD i 0])):=bz
 have hE56:Wk w w56:=Md.trans bK aD.md
 have hol56:=aE bS aD.md
 have hBp56:=aD.md.az a1
 have hBz56:=aD.md.az bC
 refine e (ap rh (hol56) rfl (by have :=hE56.size; omega) rfl (ak.cQ bA) (rfl) (xP _) (by omega) (by omega) fun b9 w57 a7 aW cm ci=> ?_)
 have ho57x:=AD a7
 have hBp57:=aW.az hBp56 (fun h=>cg hol56 hBp56 (by decide) h)
 have hBz57:=aW.az hBz56 (fun h=>cg hol56 hBz56 (by decide) h)
 have hE57:=Wk.own hE56 hol56 aW (Nat.le_refl _)
 have ai:eU (s.drop i)=some ([s.getD i 0],s.drop (i+1)):=by rw [hdi]; exact xL hn91
 have hgo2:=aI.step (j:=i+1) ai rfl
 refine p (fa mC rfl) (e (ca x2 rfl rfl (dT a7) hBp57 (by simp) fun w19 aT bt=> ?_))
 have bH:Wk w w19:=Md.trans' hE57 aT (fun k hk h=>by have :=M.md.size; omega)
 refine ag ((C _ _ (rg rfl (ab (aa i) (p (a9 ((i+1:Nat):Int) rfl rfl (aQ (by omega) (by omega))) (p aj (nl (bn ?_))))))))
 exact tn (⟨_,by omega,i+1,dn++ [[s.getD i 0]],b9,((by rw [List.length_append,List.length_singleton]; omega)),hgo2,bt,(aT.az hBz57 (fun h=>by omega)),(bW ho57x aT (fun k hk h=>cg ho57x hBp57 (by decide) (h ▸ hk))),bH,rfl,rfl,rfl,(by first | rfl | exact iv (if_neg am)),rfl⟩)
 refine ext (te _ (te _ (be (tn (bk _ _ (sq (fun _ aJ=>sq (fun _ aK=> ?_))))))))
 obtain ⟨aP,aR,rfl⟩:=bU G
 have hcr:=aI.done (by omega)
 refine rg rfl (p (fa mC rfl) (p (ld nR rfl ((aO av).trans rfl)) (p (ba vf rfl rfl) (p (gt rfl rfl) (ag ((aK _ _ (cd rfl (fun bQ=> ?_) (fun bQ=> ?_)))))))))
 refine U (fun _ C=>(p (bY (ps:= []) (L:= [.slice none 0 0]) oQ rfl (rfl)) (e (fV my rfl (vs:= [.slice none 0 0]) rfl rfl rfl ah (by decide) fun w9 hM9 q=> ?_))))
 have A:Wk w w9:=Md.trans' I hM9 (fun k hk h=>by omega)
 refine ae (((C _ _ (rt (tr (dO rfl (c8 (cs:= [.slice none 0 0]) rfl lD rfl (fun j hj=>(by cases j with | zero=>exact (aO q).trans rfl | succ j=>omega))) dE ?_))))))
 have hz:cA s=([],42):=by unfold cA; rw [if_neg (fun h=>h.elim hg10 (fun h=>by omega)),if_neg O,hcr]; exact if_pos (by omega)
 exact ⟨⟨.slice none 0 0,by rw [hz]; rfl,by rw [hz]; exact World.ownsRow_nil _ _ _ _⟩,A⟩
 refine au (tn (aJ _ _ (U (fun _ C=>(p (dx lD rfl (rfl) (show ∀ j,j < 1→Hb.aC wI.heap Z (0 +j)= [Value.slice aP dn.length aR][j]? from fun j hj=>(by cases j with | zero=>exact (aO av).trans rfl | succ j=>omega))) (e (fV my rfl (vs:= [.slice aP dn.length aR]) rfl rfl rfl ah (by decide) fun w9 hM9 q=> ?_)))))))
 have A:Wk w w9:=Md.trans' I hM9 (fun k hk h=>by omega)
 have hol9:=bW G hM9 (fun k hk h=>cg G ah (by decide) (h ▸ hk))
 refine ae (((C _ _ (rt (dO rfl (c8 (cs:= [.slice aP dn.length aR]) rfl lD rfl (fun j hj=>(by cases j with | zero=>exact (aO q).trans rfl | succ j=>omega))) dE ?_)))))
 have hz:cA s=(dn,0):=by unfold cA; rw [if_neg (fun h=>h.elim hg10 (fun h=>by omega)),if_neg O,hcr]; exact if_neg (by omega)
 exact ⟨⟨_,by rw [hz]; rfl,by rw [hz]; exact hol9⟩,A⟩
theorem JW (ps:List (List UInt8)) (a:Option Addr) (c:Nat) (w:World) (hC:ak w.heap a (iZ ps)) (hn:ps.length≤4096):
 aU Tryz.prog 121 (List.toArray [.agg [.slice a ps.length c].toArray]) w (fun v w'=>v=str (jJ ps)∧Wk w w'):=by
 refine enter Tryz.func121 rfl Tryz.ntmps121 rfl ?_
 refine U (fun _ J=>(e (jo rfl fun aA w1 aD A hB1=>ae (((J _ _ (sq (fun _ O=>sq (fun _ V=> ?_)))))))))
 refine rg rfl (p (fa mC rfl) (p (ld nR rfl (hB1.aC 0)) (p (ba vf rfl rfl) (p (a8 rfl rfl) (ag ((V _ _ (cd rfl (fun G=> ?_) (fun G=> ?_)))))))))
 refine U (fun _ C=>(ae (((C _ _ (rt (tr (f1 rfl rfl ?_))))))))
 exact ⟨by unfold jJ; rw [if_pos (List.eq_nil_of_length_eq_zero (by omega))]; rfl,A.md⟩
 refine au (tn (O _ _ (U (fun _ C=>(ae (((C _ _ (sq (fun _ Y=> ?_))))))))))
 refine U (fun _ Z=>(p (fa mC rfl) (p (ld nR rfl (hB1.aC 0)) (p (ba vf rfl rfl) (p mv (ag ((Z _ _ ?_))))))))
 refine az (lp (fun I s wI=> ∃ (i:Nat),(i≤ps.length)∧(Wk w1 wI)∧(((ps.take i).flatMap fun t=>eO (bF t)).length≤i*300)∧(s 3=str ((ps.take i).flatMap fun t=>eO (bF t)))∧(s 11= .slice a ps.length c)∧(s 12=aa (ps.length))∧(s 13=aa i)∧(ps.length - i=I)) _ ⟨0,(by omega),(Md.refl _ _),((by simp)),(by first | rfl | (rw [ef ps i [] (by omega),List.flatMap_append,List.flatMap_singleton]; rfl)),rfl,rfl,rfl,rfl⟩ ?_)
 rintro I s wI ⟨i,hi,q,hlen,ay,av,aw,ax,rfl⟩
 refine fx 3 ay (fx 11 av (fx 12 aw (fx 13 ax (U (fun _ ac=>(p (lt rfl rfl) (ag ((ac _ _ (sq (fun _ ah=>cd rfl (fun ar=> ?_) (fun ar=> ?_))))))))))))
 refine au (tn (ah _ _ (sq (fun _ E=>az (U (fun _ M=>(p (aJ Gr rfl rfl (by omega) (ak.ok (hC.wk (Md.trans A.md q)) (E3 (by omega)))) (p (dx gY rfl (rfl) (show ∀ j,j < 4→Hb.aC wI.heap (bk a) (fo a+i*4 +j)=(dj (bF (ps.getD i [])))[j]? from E2 (hC.wk (Md.trans A.md q)) (by omega))) ?_))))))))
 refine e (al mS fun aB w5 hb5 ap ai=>e (bX kU rfl (vs:=dj (bF (ps.getD i []))) rfl rfl rfl ai (by decide) fun w6 ao hB6=> ?_))
 have an:Wk w1 w6:=Md.trans' (Md.trans q ap.md) ao (fun k hk h=>by have :=q.size; omega)
 refine ag ((M _ _ (rg rfl (ab (str ((ps.take i).flatMap fun t=>eO (bF t))) (p (dx gY rfl (rfl) (fun j hj=>by rw [Nat.zero_add]; exact (hB6).aC j)) (e (cl Dt (KN (bF (ps.getD i [])) _) rfl fun aE w19 aq=> ?_)))))))
 obtain ⟨rfl,am⟩:=aq
 have hsl:=Bg (bF (ps.getD i []))
 refine p (cc rfl rfl (by omega)) (p aj (nl (bn (tn (E _ _ (rg rfl (p (ad rfl rfl (bp (by omega))) (p mv ?_))))))))
 exact ag ((⟨_,by omega,i+1,(by omega),(Md.trans an am),((by rw [ef ps i [] (by omega),List.flatMap_append,List.flatMap_singleton,List.length_append]; omega)),(by first | rfl | (rw [ef ps i [] (by omega),List.flatMap_append,List.flatMap_singleton]; rfl)),rfl,rfl,rfl,rfl⟩))
 refine ext (te _ (te _ (be (tn (Y _ _ (U (fun _ E=>(ab (str ((ps.take i).flatMap fun t=>eO (bF t))) ?_))))))))
 exact p (bG (str ((ps.take i).flatMap fun t=>eO (bF t))) rfl) (ag ((E _ _ (rt (f1 rfl rfl (⟨by unfold jJ; rw [if_neg (fun h=>by rw [h] at G; exact G rfl),show ps.take i=ps from List.take_of_length_le (by omega)]; rfl,Md.trans A.md q⟩))))))
end Go.Hb.lx
end
section
set_option maxRecDepth 20000
set_option maxHeartbeats 1000000
namespace Go.Hb.fN
open Go.Hb.di
open Go.Proofs
open Go.Hb.eS Go.Hb.fE Go.Hb.iQ Go.Hb.kg Go.Hb.gA Go.Hb.lz Go.Hb.gW Go.Hb.kN Go.Hb.lx Go.Hb.gl Go.Hb.fQ
theorem qk {kind:Nat} {al:List (List Nat)} {s:Tx} (h:al= []):ec kind al s=iL kind s:=if_pos h
theorem yX {kind:Nat} {al:List (List Nat)} {s:Tx} {e:Nat} (h:al≠[]) (h1:dy s al.length= .error e):ec kind al s= .error 13:=by unfold ec; rw [if_neg h,h1]
theorem yZ {kind:Nat} {al:List (List Nat)} {s:Tx} (h:al≠[]) (h1:dy s al.length= .ok 0):ec kind al s= .error 13:=by unfold ec; rw [if_neg h,h1]; rfl
theorem yY {kind n:Nat} {al:List (List Nat)} {s:Tx} (h:al≠[]) (h1:dy s al.length= .ok n) (hz:n≠0):ec kind al s= .ok (al.getD (n - 1) []):=by unfold ec; rw [if_neg h,h1]; exact if_neg hz
theorem qy {kind:Nat} {s:Tx} (h:(cU kind s).2=0):iL kind s= .ok (cU kind s).1:=if_neg fun h2=>h2 h
theorem qw {kind:Nat} {s:Tx} (h:(cU kind s).2≠0):iL kind s= .error (cU kind s).2:=if_pos h
theorem uQ {kind ln:Nat} {al:List (List Nat)} {c:bV} {r:List Tx} (h:r.length≠4) (h1:r.length≠5):ew kind al c ln r= .error 111:=by unfold ew; rw [if_pos ⟨h,h1⟩]
theorem jk {kind ln:Nat} {al:List (List Nat)} {c:bV} {r:List Tx} (h:r.length=4∨r.length=5):ew kind al c ln r=(match dq true (r.getD 2 []) with
 | .error e=> .error e
 | .ok st=>match gM (aV (r.getD 3 [])) with
   | .error e=> .error e
   | .ok ad=>match g9 kind al c.kind (aV (r.getD 3 [])) with
     | .error e=> .error e
     | .ok nx=>match ic r with
       | .error e=> .error e
       | .ok cd=> .ok ⟨c.kind,c.flag,c.dW,st,ad,cd,nx,ln⟩):=by unfold ew; rw [if_neg (by omega)]; rfl
theorem vK {r:iz} (h:r.2.2.2≠0):gM r= .error r.2.2.2:=if_pos h
theorem vN {r:iz} (h:r.2.2.2=0) (h1:r.1= [48]):gM r= .ok []:=by unfold gM; rw [if_neg (fun h2=>h2 h),if_pos h1]
theorem vL {r:iz} (h:r.2.2.2=0) (h1:r.1≠[48]) (h2:eX r.1≠0):gM r= .error (eX r.1):=by unfold gM; rw [if_neg (fun h2=>h2 h),if_neg h1,if_pos h2]
theorem vM {r:iz} (h:r.2.2.2=0) (h1:r.1≠[48]) (h2:eX r.1=0):gM r= .ok r.1:=by unfold gM; rw [if_neg (fun h2=>h2 h),if_neg h1,if_neg (fun h3=>h3 h2)]
theorem Am {kind a:Nat} {al:List (List Nat)} {r:iz} (h:r.2.2.1=false):g9 kind al a r= .ok []:=by unfold g9; rw [if_neg (by rw [h]; exact Bool.noConfusion)]
theorem Al {kind a:Nat} {al:List (List Nat)} {r:iz} (h:r.2.2.1=true) (h1:a=1):g9 kind al a r= .error 118:=by unfold g9; rw [if_pos h,if_pos h1]
theorem qO {kind a:Nat} {al:List (List Nat)} {r:iz} (h:r.2.2.1=true) (h1:a≠1):g9 kind al a r=ec kind al r.2.1:=by unfold g9; rw [if_pos h,if_neg h1]
theorem xV {r:List Tx} (h:r.length≠5):ic r= .ok [46]:=if_neg h
theorem xS {r:List Tx} (h:r.length=5) (h1:eh (r.getD 4 [])=false):ic r= .error 21:=by unfold ic; rw [if_pos h,if_pos h1]
theorem xT {r:List Tx} (h:r.length=5) (h1:eh (r.getD 4 [])=true) (h2:(cA (r.getD 4 [])).2≠0):ic r= .error (cA (r.getD 4 [])).2:=by unfold ic; rw [if_pos h,if_neg (by rw [h1]; exact Bool.noConfusion),if_pos h2]
theorem xU {r:List Tx} (h:r.length=5) (h1:eh (r.getD 4 [])=true) (h2:(cA (r.getD 4 [])).2=0):ic r= .ok (jJ (cA (r.getD 4 [])).1):=by unfold ic; rw [if_pos h,if_neg (by rw [h1]; exact Bool.noConfusion),if_neg (fun h3=>h3 h2)]
theorem xW (s:Tx):(cA s).1.length≤16:=by
 unfold cA
 split
 · simp
 · split
   · simp
   · split
     · simp
     · split
       · simp
       · rename_i h; exact Nat.le_of_not_lt h
theorem yL (B fb mc:Nat) (F:aH) (V:dV) (s:Tx) (w:World) (hF:cC w B fb mc F V) (hk:F.kind=1∨F.kind=2∨F.kind=3) (hal:∀ l∈F.aliases,l.length≤64∧l.Pairwise (· < ·)) (ay:F.aliases.length≤70000) (hs:s.length≤1048576):
 aU Tryz.prog 75 (List.toArray [aG fb,str s]) w (fun v w'=>((∃ a l,v= .tuple #[a,.int .i64 0]∧ec F.kind F.aliases s= .ok l∧World.ownsRow w' w.heap.size 71 1 a l.length (l.map aM))∨(∃ a e,v= .tuple #[a,aa e]∧e≠0∧ec F.kind F.aliases s= .error e))∧Wk w w'):=by
 obtain ⟨an,gD,O⟩:=bU hF.dH
 have ho10:=hF.dH
 rw [O] at ho10
 have hc10:Hb.aC w.heap fb 10=some (.slice an F.aliases.length gD):=by rw [← O]; exact (aO hF.cells).trans rfl
 refine enter Tryz.func75 rfl Tryz.ntmps75 rfl ?_
 refine U (fun _ Y=>(p aj (ae (((Y _ _ (sq (fun _ Z=>sq (fun _ ac=> ?_)))))))))
 refine rg rfl (ab (aG fb) (p (ij l6 rfl rfl) (ag ((ac _ _ (cf (rfl) (au (tn (Z _ _ ?_)))))))))
 refine sq (fun _ ah=>U (fun _ ai=>(ab (aG fb) (p (nc rfl) (p (fa et rfl) (p (fa kZ rfl) (p (ld mm rfl (hc10)) ?_)))))))
 refine p (ba rD rfl rfl) (p (a8 rfl rfl) (ag ((ai _ _ (cd rfl (fun C=> ?_) (fun C=> ?_))))))
 have i:F.aliases= []:=List.eq_nil_of_length_eq_zero (by omega)
 refine U (fun _ q=>(ab (aG fb) (p (nc rfl) (p (fa et rfl) (p (fa ng rfl) (p (ld bQ rfl ((aO hF.cells).trans rfl)) (ab (str s) ?_)))))))
 refine e (cl wV (zj F.kind s _ hk hs) rfl fun az w23 ap=> ?_)
 obtain ⟨⟨I,rfl,ho23⟩,hE23⟩:=ap
 refine p (xt rfl rfl) (p (xt rfl rfl) (p aj (ae (((q _ _ (rt (tr ?_))))))))
 refine f2 rfl rfl rfl ?_
 refine ⟨?_,hE23⟩
 by_cases h:(cU F.kind s).2=0
 exact .inl ⟨I,_,by rw [h]; rfl,by rw [qk i]; exact qy h,ho23⟩
 exact .inr ⟨I,_,rfl,h,by rw [qk i]; exact qw h⟩
 have i:F.aliases≠[]:=fun h=>by rw [h] at C; exact C rfl
 refine au (tn (ah _ _ (U (fun _ q=>(ab (str s) (ab (aG fb) (p (nc rfl) (p (fa et rfl) ?_))))))))
 refine p (fa kZ rfl) (p (ld mm rfl (hc10)) (p (ba rD rfl rfl) (e (cl pL (qS s (F.aliases.length:Nat) _ hs (by omega)) rfl fun aA aF aq=> ?_))))
 obtain ⟨rfl,hE34⟩:=aq
 refine p mv (p (xt rfl rfl) (p (xt rfl rfl) (p aj (ae (((q _ _ (sq (fun _ am=> ?_)))))))))
 refine U (fun _ G=>(p mv (p (bP rfl rfl) (p mv (gs (t:=39) rfl (fun aw=> ?_) (fun aw=> ?_))))))
 refine sk rfl rfl rfl rfl (sk rfl rfl rfl rfl (p (bf rfl) (ag ((G _ _ (ct rfl (U (fun _ j=> ?_))))))))
 exact p aj (ae (((j _ _ (rt (tr (f2 rfl rfl rfl (⟨.inr ⟨.slice none 0 0,13,rfl,by decide,yX i (k8 (by omega)).1⟩,hE34⟩))))))))
 refine pg rfl rfl rfl mv (pg rfl rfl rfl (a8 rfl rfl) (p (a4 rfl) (ag ((G _ _ (cd rfl (fun av=> ?_) (fun av=> ?_)))))))
 refine U (fun _ j=>(p aj (ae (((j _ _ (rt (tr ?_))))))))
 refine f2 rfl rfl rfl ?_
 have hnx:=j4 (by omega :(cH s (F.aliases.length:Nat)).2=0)
 rw [show (cH s (F.aliases.length:Nat)).1=0 from by omega] at hnx
 exact ⟨.inr ⟨.slice none 0 0,13,rfl,by decide,yZ i hnx⟩,hE34⟩
 refine au (tn (am _ _ (sq (fun _ j=> ?_))))
 have hnx:=j4 (by omega :(cH s (F.aliases.length:Nat)).2=0)
 have hnle:=lY s (F.aliases.length:Nat) (by omega)
 have J:(cH s (F.aliases.length:Nat)).1 - 1 < F.aliases.length:=by omega
 obtain ⟨aB,E,A⟩:=c4.get (hF.al.wk hE34) J
 obtain ⟨ax,xz,rfl⟩:=A.slice
 have hal51:=hal _ (c6 (d:= []) J)
 refine rg rfl (ab (aG fb) (p (nc rfl) (p (fa et rfl) (p (fa kZ rfl) (p (ld mm rfl (Wk.aC hE34 hc10)) (p mv (p (cI (((cH s (F.aliases.length:Nat)).1 - 1:Nat):Int) rfl rfl (aQ (by omega) (by omega))) ?_)))))))
 refine p (aJ s0 rfl rfl (by omega) (ak.ok ((aI (aE ho10 hE34)).2) (fun h=>by rw [h] at E; cases E))) (p (ld ml rfl (ak.gC (aI (aE ho10 hE34)).2 E)) (e (cl wX (Aw (F.aliases.getD ((cH s (F.aliases.length:Nat)).1 - 1) []) _ _ _ A.bH.2 (fun h=>Tg.qP A (by simp) h) (by omega)) rfl fun aD w52 ar=> ?_)))
 obtain ⟨M,ao⟩:=ar
 rw [Ju hal51.2] at M
 exact p aj (ae (((j _ _ (rt (f2 rfl rfl rfl (⟨.inl ⟨_,_,rfl,yY i hnx (by omega),fZ M hE34.size⟩,hE34.trans ao⟩)))))))
theorem KE (B:Nat) (H:bM) (F:aH) (V:dV) (R:eF) (rows:List Rw) (ln:Nat) (seen:List Tx) (c:bV) (r:List Tx) (bn:Nat) (A:Option Addr) (C:Nat) (w:World) (hF:cC w B H.fb H.mc F V) (E:bS w B H F R rows ln seen) (hB:hZ F rows seen) (c2:c.kind=1∨c.kind=2) (hT:Tg w bn 9 r.length (.slice A r.length C) (r.map str)) (hrl:r.length≤70000∧∀ x∈r,x.length≤70000):
 dN Tryz.prog 102 (List.toArray [.pointer (some ⟨H.rb,0,none⟩),.agg (kT c).toArray,.slice A r.length C]) w (fun v w'=> ∃ q,ew F.kind F.aliases c ln r= .ok q∧q.line=ln∧(∃ vn,v= .agg (iq (q,vn)).toArray∧Tg w' B 71 q.next.length vn (q.next.map aM))∧Wk w w') (fun c' w'=> ∃ e,ew F.kind F.aliases c ln r= .error e∧c'=fJ 25 ln (e:Nat)∧Wk w w'):=by
 have hTs:=hT.bH
 have hrb:=(Array.getElem?_eq_some_iff.1 E.cells).1
 have hlo:=E.lo.1
 refine gr Tryz.func102 rfl Tryz.ntmps102 rfl ?_
 refine sq (fun cR bP=>rg rfl (e (jo rfl fun aF w4 c0 a9 bF=>e (al vw fun U w6 hb6 ay hB6=> ?_))))
 have aq:Wk w w6:=a9.md.trans ay.md
 have hln6:=Wk.aC aq E.bK
 have hz4:=a9.size
 have hz6:=ay.size
 refine nl (tn (bP _ _ ?_))
 refine cX (fun an wC=>(r.length=4∨r.length=5)∧(wC=w6)∧(an 0= .pointer (some ⟨H.rb,0,none⟩))∧(an 2= .slice A r.length C)∧(an 4= .pointer (some ⟨aF,0,none⟩))∧(an 6= .pointer (some ⟨U,0,none⟩))) ?_ ?_
 refine rg rfl (p (aB (.pointer (some ⟨H.rb,0,none⟩)) rfl) (p (aB (.slice A r.length C) rfl) (p (ba c9 rfl rfl) (p (a8 rfl rfl) (p mv (gs (t:=20) rfl (fun co=> ?_) (fun co=> ?_)))))))
 refine sk rfl rfl rfl rfl (sk rfl rfl rfl rfl (sk rfl rfl rfl rfl (p (bf rfl) (eP rfl (cj eT (e4 H.rb ln _ 111 w6 hln6 (by decide)) rfl fun cN w25 aW=> ?_) (fun c w' s J hF=>by first | exact absurd s.2.1 (by decide) | exact ⟨111,uQ (by omega) (by have :=of_decide_eq_false s.2.1; omega),s.1,by rw [s.2.2]; exact aq⟩)))))
 obtain ⟨rfl,bi,rfl⟩:=aW
 exact nl (tn (⟨(.inl (by omega)),rfl,rfl,rfl,rfl,rfl⟩))
 refine pg rfl rfl rfl (aB (.slice A r.length C) rfl) (pg rfl rfl rfl (ba c9 rfl rfl) (pg rfl rfl rfl (a8 rfl rfl) (p (a4 rfl) (eP rfl (cj eT (e4 H.rb ln _ 111 w6 hln6 (by decide)) rfl fun cN w25 aW=> ?_) (fun c w' s J hF=>by first | exact absurd s.2.1 (by decide) | exact ⟨111,uQ (by omega) (by have :=of_decide_eq_false s.2.1; omega),s.1,by rw [s.2.2]; exact aq⟩)))))
 obtain ⟨rfl,bi,rfl⟩:=aW
 exact nl (tn (⟨(.inr (by have :=of_decide_eq_true bi; omega)),rfl,rfl,rfl,rfl,rfl⟩))
 rintro an wC ⟨hlen,bN,cp,cq,cr,ct⟩
 refine fx 0 cp (fx 2 cq (fx 4 cr (fx 6 ct ?_)))
 subst bN
 have hq4:=ay.md.B bF
 refine sq (fun cS bR=>rg rfl (p (fa qs rfl) (p (ld bQ rfl ((hq4.aC 1).trans rfl)) (p (fa tw rfl) (p (ld bJ rfl ((hq4.aC 0).trans rfl)) (p (fa y9 rfl) (p (ld po rfl ((hq4.aC 2).trans rfl)) ?_)))))))
 refine p (bY (ps:= [(0,.int .i64 (c.kind:Nat)),(1,aM c.flag),(2,.bool c.dW),(5,str [46])]) (L:= [.int .i64 (c.kind:Nat),aM c.flag,.bool c.dW,.string ⟨⟨[]⟩⟩,.string ⟨⟨[]⟩⟩,str [46],.slice none 0 0]) Lk rfl (rfl)) (e (al vw fun b7 w7 c1 az bG=> ?_))
 have hz7:=az.size
 refine e (bX sP rfl rfl rfl rfl (bG) (by simp) fun wt2_8 av bB=> ?_)
 have ar:Wk w wt2_8:=(aq.trans az.md).trans' av (fun k hk h=>by omega)
 have hb48:=av.B (az.md.B hq4) (fun h=>by omega)
 have hb68:=av.B (az.md.B hB6) (fun h=>by omega)
 have hz8:=av.size
 have hT8s:=(hT.wk ar).bH
 have c3:(r.getD 2 []).length≤70000:=hrl.2 _ (c6 (by omega))
 have c4:(r.getD 3 []).length≤70000:=hrl.2 _ (c6 (by omega))
 refine nl (tn (bR _ _ (sq (fun cT bT=>rg rfl (p (aB (.pointer (some ⟨H.rb,0,none⟩)) rfl) (p (aB (.slice A r.length C) rfl) (p (aJ bA rfl rfl (by omega) (ak.ok (hT8s.2) (bl (by omega)))) (p (ld bw rfl (bh.get (i:=2) hT8s.2 (by omega))) ?_))))))))
 refine eP rfl (cj wU (AG H.rb ln (r.getD 2 []) wt2_8 (Wk.aC ar E.bK) (by omega)) rfl fun dc w37 b2=> ?_) (fun c w' s J hF=>by obtain ⟨e,he,h,h2⟩:=s; exact ⟨e,by rw [jk hlen,he],h,ar.trans h2⟩)
 obtain ⟨stx,bC,rfl,ac⟩:=b2
 refine p (fa GW rfl) (e (st jc rfl rfl (rfl) (ac.B bB) (by simp) fun wt3_6 aw bE=> ?_))
 have a5:bD wt3_6.heap b7 [.int .i64 (c.kind:Nat),aM c.flag,.bool c.dW,str stx,str [],str [46],.slice none 0 0]:=bE
 have a6:Wk w wt3_6:=(ar.trans ac).trans' aw (fun k hk h=>by omega)
 have hz37:=ac.size
 have hb43:=aw.B (ac.B hb48) (fun h=>by omega)
 have hb63:=aw.B (ac.B hb68) (fun h=>by omega)
 have hT3s:=(hT.wk a6).bH
 have hz3:=aw.size
 refine nl (tn (bT _ _ (sq (fun cU bZ=>rg rfl (p (aB (.slice A r.length C) rfl) (p (aJ bA rfl rfl (by omega) (ak.ok (hT3s.2) (bl (by omega)))) (p (ld bw rfl (bh.get (i:=3) hT3s.2 (by omega))) (e (cl sx (vv (r.getD 3 []) _ (by omega)) rfl fun dd w43 b3=> ?_)))))))))
 obtain ⟨rfl,hE43⟩:=b3
 have hE4:=a6.trans hE43
 have hwl:=mQ (r.getD 3 [])
 refine p mv (p (xt rfl rfl) (p (xt rfl rfl) (p (xt rfl rfl) (p (xt rfl rfl) (p aj (p aj (p aj ?_)))))))
 refine p aj (nl (tn (bZ _ _ (sq (fun cV b0=>rg rfl (p (aB (.pointer (some ⟨H.rb,0,none⟩)) rfl) (p mv (eP rfl (cj gZ (ku H.rb ln ((aV (r.getD 3 [])).2.2.2:Nat) w43 (Wk.aC hE4 E.bK)) rfl fun de cP b4=> ?_) (fun c w' s J hF=>⟨_,by rw [jk hlen,bC,vK (show (aV (r.getD 3 [])).2.2.2≠0 by have :=s.2.1; omega)],s.1,by rw [s.2.2]; exact hE4⟩)))))))))
 obtain ⟨rfl,aD,rfl⟩:=b4
 have aD:(aV (r.getD 3 [])).2.2.2=0:=by omega
 refine nl (tn (b0 _ _ ?_))
 refine cX (fun M aa=> ∃ (O:Tx),(gM (aV (r.getD 3 []))= .ok O)∧(bD aa.heap b7 [.int .i64 (c.kind:Nat),aM c.flag,.bool c.dW,str stx,str O,str [46],.slice none 0 0])∧(bD aa.heap aF (kT c))∧(∃ L,L.length=7∧bD aa.heap U L)∧(Wk w aa)∧(M 0= .pointer (some ⟨H.rb,0,none⟩))∧(M 2= .slice A r.length C)∧(M 4= .pointer (some ⟨aF,0,none⟩))∧(M 6= .pointer (some ⟨U,0,none⟩))∧(M 7= .pointer (some ⟨b7,0,none⟩))∧(M 9=str (aV (r.getD 3 [])).2.1)∧(M 10= .bool (aV (r.getD 3 [])).2.2.1)) ?_ ?_
 refine sq (fun aE Y=>rg rfl (p mv (p (ky rfl rfl) (nl (tn (Y _ _ (cd rfl (fun aA=> ?_) (fun aA=> ?_))))))))
 refine rg rfl (p (aB (.pointer (some ⟨H.rb,0,none⟩)) rfl) (p mv (eP rfl (cj xa (AR H.rb ln (aV (r.getD 3 [])).1 cP (Wk.aC hE4 E.bK) (by omega)) rfl fun df w55 b5=> ?_) (fun c w' s J hF=>⟨_,by rw [jk hlen,bC,vL aD aA s.2.1],s.1,hE4.trans s.2.2⟩))))
 obtain ⟨rfl,cK,ae⟩:=b5
 refine p (fa GX rfl) (e (st jc rfl rfl (rfl) (Wk.B (hE43.trans ae) a5) (by simp) fun wt7_4 aU bI=> ?_))
 have hE7:Wk w wt7_4:=(hE4.trans ae).trans' aU (fun k hk h=>by omega)
 have hz5:=(hE43.trans ae).size
 exact nl (tn (⟨(aV (r.getD 3 [])).1,(vM aD aA cK),bI,(aU.B (Wk.B (hE43.trans ae) hb43) (fun h=>by omega)),(⟨_,rfl,aU.B (Wk.B (hE43.trans ae) hb63) (fun h=>by omega)⟩),hE7,rfl,rfl,rfl,rfl,rfl,rfl,rfl⟩))
 exact au (tn (⟨[],(vN aD (Classical.not_not.1 aA)),(hE43.B a5),(hE43.B hb43),(⟨_,rfl,hE43.B hb63⟩),hE4,rfl,rfl,rfl,rfl,rfl,rfl,rfl⟩))
 rintro M aa ⟨O,ah,ap,cg,bd,G,cu,cw,cx,cy,cz,cB,cv⟩
 refine fx 0 cu (fx 2 cw (fx 4 cx (fx 6 cy (fx 7 cz (fx 9 cB (fx 10 cv ?_))))))
 skip
 refine cX (fun ao I=> ∃ (nx:List Nat) (vn:Value),(g9 F.kind F.aliases c.kind (aV (r.getD 3 []))= .ok nx)∧(bD I.heap b7 [.int .i64 (c.kind:Nat),aM c.flag,.bool c.dW,str stx,str O,str [46],vn])∧(Tg I (b7+1) 71 nx.length vn (nx.map aM))∧(∃ L,L.length=7∧bD I.heap U L)∧(Wk w I)∧(ao 0= .pointer (some ⟨H.rb,0,none⟩))∧(ao 2= .slice A r.length C)∧(ao 6= .pointer (some ⟨U,0,none⟩))∧(ao 7= .pointer (some ⟨b7,0,none⟩))) ?_ ?_
 refine sq (fun aE Y=>rg rfl (p (aB (.bool (aV (r.getD 3 [])).2.2.1) rfl) (nl (tn (Y _ _ (cb rfl (fun ai=> ?_) (fun ai=> ?_)))))))
 skip
 refine sq (fun bo aN=>rg rfl (p (aB (.pointer (some ⟨H.rb,0,none⟩)) rfl) (p (fa qs rfl) (p (ld bQ rfl ((cg.aC 1).trans rfl)) (p (a8 rfl rfl) (eP rfl (cj eT (e4 H.rb ln _ 118 aa (Wk.aC G E.bK) (by decide)) rfl fun dg bm b6=> ?_) (fun c' w' s J hF=>by have h0:=of_decide_eq_false s.2.1; exact ⟨118,by rw [jk hlen,bC]; simp only; rw [ah]; simp only; rw [Al ai (by omega)],s.1,by rw [s.2.2]; exact G⟩)))))))
 obtain ⟨rfl,hx62,rfl⟩:=b6
 have hx62:=of_decide_eq_true hx62
 refine nl (tn (aN _ _ (sq (fun bp aP=>rg rfl (p (aB (.pointer (some ⟨H.rb,0,none⟩)) rfl) (p (nc rfl) (p (fa eL rfl) (p (ld eo rfl (Wk.aC G ((aO E.cells).trans rfl))) ?_))))))))
 refine p (aB (str (aV (r.getD 3 [])).2.1) rfl) (e (cl xF (yL B H.fb H.mc F V (aV (r.getD 3 [])).2.1 _ (hF.wk G) hB.kd hB.al (by have :=hB.len; omega) (by have :=mQ (r.getD 3 []); omega)) rfl fun cO w69 b8=> ?_))
 obtain ⟨cm,hE69⟩:=b8
 obtain ⟨a2,a3,rfl,hcs⟩:∃ a,∃ e:Nat,cO= .tuple #[a,.int .i64 (e:Nat)]∧((e=0∧∃ l,ec F.kind F.aliases (aV (r.getD 3 [])).2.1= .ok l∧World.ownsRow w69 bm.heap.size 71 1 a l.length (l.map aM))∨(e≠0∧ec F.kind F.aliases (aV (r.getD 3 [])).2.1= .error e)):=by
  rcases cm with ⟨a,l,h1,h2,h3⟩ | ⟨a,e,h1,h2,h3⟩
  exact ⟨a,0,h1,.inl ⟨rfl,l,h2,h3⟩⟩
  exact ⟨a,e,h1,.inr ⟨h2,h3⟩⟩
 refine p mv (p (xt rfl rfl) (p (xt rfl rfl) (p aj (p aj (nl (tn (aP _ _ (sq (fun bq aQ=> ?_)))))))))
 refine rg rfl (p (aB (.pointer (some ⟨H.rb,0,none⟩)) rfl) (p mv ?_))
 refine eP rfl (cj gZ (ku H.rb ln (a3:Nat) w69 (Wk.aC (G.trans hE69) E.bK)) rfl fun dh cQ b9=> ?_) (fun c' w' s J hF=>by
  rcases hcs with ⟨h,_⟩ | ⟨h,h1⟩
  exact absurd (by omega) s.2.1
  exact ⟨a3,by rw [jk hlen,bC]; simp only; rw [ah]; simp only; rw [qO ai (by omega),h1],s.1,by rw [s.2.2]; exact G.trans hE69⟩)
 obtain ⟨rfl,db,rfl⟩:=b9
 obtain ⟨nx,hnx,aX⟩:∃ l,ec F.kind F.aliases (aV (r.getD 3 [])).2.1= .ok l∧World.ownsRow cQ bm.heap.size 71 1 a2 l.length (l.map aM):=by
  rcases hcs with ⟨_,h⟩ | ⟨h,_⟩
  exact h
  exact absurd (by omega) h
 refine nl (tn (aQ _ _ (rg rfl (p mv (p (fa qq rfl) (e (st p4 rfl rfl (dT aX) (hE69.B ap) (by simp) fun wt12_2 aS bt=> ?_)))))))
 have hE12:Wk w wt12_2:=(G.trans hE69).trans' aS (fun k hk h=>by omega)
 have hz69:=hE69.size
 exact nl (tn (⟨nx,a2,((by rw [qO ai (by omega)]; exact hnx)),bt,(((Tg.fT (bW aX aS (fun k hk h=>by have :=c7 aX hk; have :=ap.lt; omega))).mono ap.lt)),((by obtain ⟨L,aR,hb⟩:=bd; exact ⟨L,aR,aS.B (hE69.B hb) (fun h=>by omega)⟩)),hE12,rfl,rfl,rfl,rfl⟩))
 exact au (tn (⟨[],.slice none 0 0,(Am (by simpa using ai)),ap,(⟨none,0,rfl,Nat.le_refl _,.inl rfl⟩),bd,G,rfl,rfl,rfl,rfl⟩))
 rintro ao I ⟨nx,vn,hnx,aG,bc,bg,ag,cD,cE,cF,cG⟩
 refine fx 0 cD (fx 2 cE (fx 6 cF (fx 7 cG ?_)))
 refine cX (fun a1 am=> ∃ (ab:Tx),(ic r= .ok ab)∧(bD am.heap b7 [.int .i64 (c.kind:Nat),aM c.flag,.bool c.dW,str stx,str O,str ab,vn])∧(Tg am (b7+1) 71 nx.length vn (nx.map aM))∧(∃ L,L.length=7∧bD am.heap U L)∧(Wk w am)∧(a1 6= .pointer (some ⟨U,0,none⟩))∧(a1 7= .pointer (some ⟨b7,0,none⟩))) ?_ ?_
 refine sq (fun aE Y=>rg rfl (p (aB (.slice A r.length C) rfl) (p (ba c9 rfl rfl) (p (a8 rfl rfl) (nl (tn (Y _ _ (cd rfl (fun ck=> ?_) (fun ck=> ?_)))))))))
 have aZ:r.length=5:=by omega
 have da:(r.getD 4 []).length≤70000:=hrl.2 _ (c6 (by omega))
 have hTDs:=(hT.wk ag).bH
 refine sq (fun bo aN=>rg rfl (p (aB (.pointer (some ⟨H.rb,0,none⟩)) rfl) (p (aB (.slice A r.length C) rfl) (p (aJ bA rfl rfl (by omega) (ak.ok (hTDs.2) (bl (by omega)))) (p (ld bw rfl (bh.get (i:=4) hTDs.2 (by omega))) (eP rfl (cj sE (uE H.rb ln (r.getD 4 []) I (Wk.aC ag E.bK) (by omega)) rfl fun di w84 ca=> ?_) (fun c' w' s J hF=>⟨21,by rw [jk hlen,bC]; simp only; rw [ah]; simp only; rw [hnx]; simp only; rw [xS aZ s.2.1],s.1,ag.trans s.2.2⟩)))))))
 obtain ⟨rfl,bj,aL⟩:=ca
 have hE84x:=ag.trans aL
 have hTEs:=(hT.wk hE84x).bH
 refine nl (tn (aN _ _ (sq (fun bp aP=>rg rfl (p (aB (.slice A r.length C) rfl) (p (aJ bA rfl rfl (by omega) (ak.ok (hTEs.2) (bl (by omega)))) (p (ld bw rfl (bh.get (i:=4) hTEs.2 (by omega))) (e (cl Dj (Fk (r.getD 4 []) _ (by omega)) rfl fun dj w89 cc=> ?_)))))))))
 obtain ⟨⟨cY,rfl,aY⟩,hE89⟩:=cc
 obtain ⟨cL,cM,rfl⟩:=bU aY
 have hE89x:=hE84x.trans hE89
 refine p mv (p (xt rfl rfl) (p (xt rfl rfl) (e (al vz fun cZ w14 hb14 ax bu=> ?_))))
 have hE14:=hE89x.trans ax.md
 refine e (bX my rfl rfl rfl rfl (bu) (by simp) fun wt15_8 Z bv=> ?_)
 have aK:Wk w wt15_8:=hE14.trans' Z (fun k hk h=>by have :=hE89x.size; omega)
 have a0:Wk I w14:=(aL.trans hE89).trans ax.md
 have hzD:=aL.size
 have hzE:=hE89.size
 have hzF:=ax.size
 have hzG:=Z.size
 have cJ:Wk I wt15_8:=a0.trans' Z (fun k hk h=>by omega)
 refine p aj (nl (tn (aP _ _ (sq (fun bq aQ=>rg rfl (p (aB (.pointer (some ⟨H.rb,0,none⟩)) rfl) (p mv (eP rfl (cj gZ (ku H.rb ln ((cA (r.getD 4 [])).2:Nat) wt15_8 (Wk.aC aK E.bK)) rfl fun dk dm ce=> ?_) (fun c' w' s J hF=>⟨_,by rw [jk hlen,bC]; simp only; rw [ah]; simp only; rw [hnx]; simp only; rw [xT aZ bj (by have :=s.2.1; omega)],s.1,by rw [s.2.2]; exact aK⟩)))))))))
 obtain ⟨rfl,bk,rfl⟩:=ce
 have bk:(cA (r.getD 4 [])).2=0:=by omega
 refine nl (tn (aQ _ _ (rg rfl (p (dx lD rfl (rfl) (fun j hj=>bv.c5 j)) (e (cl Dk (JW (cA (r.getD 4 [])).1 cL cM _ (ak.md (ak.wk (aI aY).2 ax.md) Z (fun hne h=>by have :=JD aY hne; omega)) (by have :=xW (r.getD 4 []); omega)) rfl fun dl w96 cf=> ?_))))))
 obtain ⟨rfl,hE96⟩:=cf
 have hE96x:=aK.trans hE96
 have hz96:=hE96.size
 refine p (fa GY rfl) (e (st jc rfl rfl (rfl) (hE96.B (Z.B (a0.B aG) (fun h=>by have :=aG.lt; omega))) (by simp) fun wt17_3 aT bx=> ?_))
 have hE17:Wk w wt17_3:=hE96x.trans' aT (fun k hk h=>by omega)
 exact nl (tn (⟨jJ (cA (r.getD 4 [])).1,(xU aZ bj bk),bx,((Tg.Af (Tg.wk bc (cJ.trans hE96)) aT (fun k hk=>by omega))),((by obtain ⟨L,aR,hb⟩:=bg; exact ⟨L,aR,aT.B (hE96.B (Z.B (a0.B hb) (fun h=>by have :=hb.lt; omega))) (fun h=>by omega)⟩)),hE17,rfl,rfl⟩))
 exact au (tn (⟨[46],(xV (by omega)),aG,bc,bg,ag,rfl,rfl⟩))
 rintro a1 am ⟨ab,cn,bL,bb,ch,bO,cH,cI⟩
 refine fx 6 cH (fx 7 cI ?_)
 obtain ⟨cW,b1,ci⟩:=ch
 obtain ⟨br,bs,rfl⟩:=bb.slice
 refine sq (fun aE Y=>rg rfl (p (dx rT rfl (rfl) (fun j hj=>bL.c5 j)) (e (bX sP rfl rfl rfl rfl (ci) (by rw [b1]; decide) fun dn a7 bz=>nl (tn (Y _ _ (rt (fY ?_))))))))
 exact oa rfl (c8 (cs:=iq (⟨c.kind,c.flag,c.dW,stx,O,ab,nx,ln⟩,.slice br nx.length bs)) rfl rT rfl (fun j hj=>by rw [bz.c5 j,List.drop_eq_nil_of_le (by omega),List.append_nil]; rfl)) (⟨⟨c.kind,c.flag,c.dW,stx,O,ab,nx,ln⟩,by rw [jk hlen,bC]; simp only; rw [ah]; simp only; rw [hnx]; simp only; rw [cn],rfl,⟨_,rfl,(Tg.Af bb a7 (fun k hk=>by have :=ay.size; omega)).mono (by omega)⟩,bO.trans' a7 (fun k hk h=>by omega)⟩)
end Go.Hb.fN
end
section
set_option maxRecDepth 20000
set_option maxHeartbeats 1000000
namespace Go.Hb.j7
open Go.Hb.di
open Go.Proofs
open Go.Hb.eS
def eY (s:Tx):Option Value:=if s=bO then some (Value.agg #[.int .i64 (4:Nat),.func (.func 65) #[] #[]]) else if s=dP then some (Value.agg #[.int .i64 (4:Nat),.func (.func 65) #[] #[]]) else if s=db then some (Value.agg #[.int .i64 (2:Nat),.func (.func 64) #[] #[]]) else if s=dD then some (Value.agg #[.int .i64 (2:Nat),.func (.func 63) #[] #[]]) else if s=gu then some (Value.agg #[.int .i64 (2:Nat),.func (.func 62) #[] #[]]) else if s=im then some (Value.agg #[.int .i64 (2:Nat),.func (.func 61) #[] #[]]) else if s=g6 then some (Value.agg #[.int .i64 (2:Nat),.func (.func 61) #[] #[]]) else if s=gP then some (Value.agg #[.int .i64 (2:Nat),.func (.func 61) #[] #[]]) else if s=gF then some (Value.agg #[.int .i64 (2:Nat),.func (.func 61) #[] #[]]) else if s=gv then some (Value.agg #[.int .i64 (2:Nat),.func (.func 61) #[] #[]]) else if s=fk then some (Value.agg #[.int .i64 (2:Nat),.func (.func 60) #[] #[]]) else if s=eZ then some (Value.agg #[.int .i64 (2:Nat),.func (.func 59) #[] #[]]) else if s=eM then some (Value.agg #[.int .i64 (2:Nat),.func (.func 58) #[] #[]]) else none
def zF:Value→Option Value:=fun _=>none
def zG:Tx→Option Value:=fun _=>none
theorem str_inj {a b:Tx} :str a=str b↔a=b:=⟨fun h=>by unfold str at h; cases h; rfl,fun h=>by rw [h]⟩
theorem jj {f:Value→Option Value} {g:Tx→Option Value} {k:Tx} {v:Value} (h:∀ s,f (str s)=g s) (s:Tx):bg f (str k) v (str s)=if s=k then some v else g s:=by
 by_cases hs:s=k
 · subst hs; rw [oF,if_pos rfl]
 · rw [nv (fun h2=>hs (str_inj.1 h2)),if_neg hs,h s]
theorem HV (w:World):
 aU Tryz.prog 32 (List.toArray []) w (fun v w'=> ∃ b,v= .map (some b)∧b=w.heap.size∧(∃ f,bN w'.heap b fK f∧∀ s,f (str s)=eY s)∧Wk w w'):=by
 refine enter Tryz.func32 rfl Tryz.ntmps32 rfl ?_
 refine U (fun _ i=>(ae (((i _ _ (U (fun _ j=>(e (oy fun a w1 aT ap hB1=> ?_)))))))))
 have aq:bN w1.heap a fK zF:=bN.nil hB1
 have aV:∀ s:Tx,zF (str s)=zG s:=fun _=>rfl
 have q:Wk w w1:=ap.md
 refine p (bY (ps:= [(0,aa 2),(1,.func (.func 58) #[] #[])]) (L:= [aa 2,.func (.func 58) #[] #[]]) jm rfl (rfl)) (e (jf iO fp (aq) rfl rfl rfl (⟨_,rfl⟩) fun wm1_2 ah ay=> ?_))
 have aG:bN wm1_2.heap a fK (bg zF (str eM) (Value.agg #[aa 2,.func (.func 58) #[] #[]])):=ay
 have hg1:=jj (k:=eM) (v:=Value.agg #[aa 2,.func (.func 58) #[] #[]]) aV
 have A:Wk w wm1_2:=q.trans' ah (fun k hk h=>by omega)
 refine p (bY (ps:= [(0,aa 2),(1,.func (.func 59) #[] #[])]) (L:= [aa 2,.func (.func 59) #[] #[]]) jm rfl (rfl)) (e (jf iO fp (aG) rfl rfl rfl (⟨_,rfl⟩) fun wm1_4 am aD=> ?_))
 have aH:bN wm1_4.heap a fK (bg (bg zF (str eM) (Value.agg #[aa 2,.func (.func 58) #[] #[]])) (str eZ) (Value.agg #[aa 2,.func (.func 59) #[] #[]])):=aD
 have hg2:=jj (k:=eZ) (v:=Value.agg #[aa 2,.func (.func 59) #[] #[]]) hg1
 have I:Wk w wm1_4:=A.trans' am (fun k hk h=>by omega)
 refine p (bY (ps:= [(0,aa 2),(1,.func (.func 60) #[] #[])]) (L:= [aa 2,.func (.func 60) #[] #[]]) jm rfl (rfl)) (e (jf iO fp (aH) rfl rfl rfl (⟨_,rfl⟩) fun wm1_6 an aE=> ?_))
 have aL:bN wm1_6.heap a fK (bg (bg (bg zF (str eM) (Value.agg #[aa 2,.func (.func 58) #[] #[]])) (str eZ) (Value.agg #[aa 2,.func (.func 59) #[] #[]])) (str fk) (Value.agg #[aa 2,.func (.func 60) #[] #[]])):=aE
 have hg3:=jj (k:=fk) (v:=Value.agg #[aa 2,.func (.func 60) #[] #[]]) hg2
 have J:Wk w wm1_6:=I.trans' an (fun k hk h=>by omega)
 refine p (bY (ps:= [(0,aa 2),(1,.func (.func 61) #[] #[])]) (L:= [aa 2,.func (.func 61) #[] #[]]) jm rfl (rfl)) (e (jf iO fp (aL) rfl rfl rfl (⟨_,rfl⟩) fun wm1_8 ao aF=> ?_))
 have aM:bN wm1_8.heap a fK (bg (bg (bg (bg zF (str eM) (Value.agg #[aa 2,.func (.func 58) #[] #[]])) (str eZ) (Value.agg #[aa 2,.func (.func 59) #[] #[]])) (str fk) (Value.agg #[aa 2,.func (.func 60) #[] #[]])) (str gv) (Value.agg #[aa 2,.func (.func 61) #[] #[]])):=aF
 have hg4:=jj (k:=gv) (v:=Value.agg #[aa 2,.func (.func 61) #[] #[]]) hg3
 have hE4:Wk w wm1_8:=J.trans' ao (fun k hk h=>by omega)
 refine p (bY (ps:= [(0,aa 2),(1,.func (.func 61) #[] #[])]) (L:= [aa 2,.func (.func 61) #[] #[]]) jm rfl (rfl)) (e (jf iO fp (aM) rfl rfl rfl (⟨_,rfl⟩) fun wm1_10 Y ar=> ?_))
 have aN:bN wm1_10.heap a fK (bg (bg (bg (bg (bg zF (str eM) (Value.agg #[aa 2,.func (.func 58) #[] #[]])) (str eZ) (Value.agg #[aa 2,.func (.func 59) #[] #[]])) (str fk) (Value.agg #[aa 2,.func (.func 60) #[] #[]])) (str gv) (Value.agg #[aa 2,.func (.func 61) #[] #[]])) (str gF) (Value.agg #[aa 2,.func (.func 61) #[] #[]])):=ar
 have hg5:=jj (k:=gF) (v:=Value.agg #[aa 2,.func (.func 61) #[] #[]]) hg4
 have hE5:Wk w wm1_10:=hE4.trans' Y (fun k hk h=>by omega)
 refine p (bY (ps:= [(0,aa 2),(1,.func (.func 61) #[] #[])]) (L:= [aa 2,.func (.func 61) #[] #[]]) jm rfl (rfl)) (e (jf iO fp (aN) rfl rfl rfl (⟨_,rfl⟩) fun wm1_12 Z au=> ?_))
 have aO:bN wm1_12.heap a fK (bg (bg (bg (bg (bg (bg zF (str eM) (Value.agg #[aa 2,.func (.func 58) #[] #[]])) (str eZ) (Value.agg #[aa 2,.func (.func 59) #[] #[]])) (str fk) (Value.agg #[aa 2,.func (.func 60) #[] #[]])) (str gv) (Value.agg #[aa 2,.func (.func 61) #[] #[]])) (str gF) (Value.agg #[aa 2,.func (.func 61) #[] #[]])) (str gP) (Value.agg #[aa 2,.func (.func 61) #[] #[]])):=au
 have hg6:=jj (k:=gP) (v:=Value.agg #[aa 2,.func (.func 61) #[] #[]]) hg5
 have M:Wk w wm1_12:=hE5.trans' Z (fun k hk h=>by omega)
 refine p (bY (ps:= [(0,aa 2),(1,.func (.func 61) #[] #[])]) (L:= [aa 2,.func (.func 61) #[] #[]]) jm rfl (rfl)) (e (jf iO fp (aO) rfl rfl rfl (⟨_,rfl⟩) fun wm1_14 ab av=> ?_))
 have aP:bN wm1_14.heap a fK (bg (bg (bg (bg (bg (bg (bg zF (str eM) (Value.agg #[aa 2,.func (.func 58) #[] #[]])) (str eZ) (Value.agg #[aa 2,.func (.func 59) #[] #[]])) (str fk) (Value.agg #[aa 2,.func (.func 60) #[] #[]])) (str gv) (Value.agg #[aa 2,.func (.func 61) #[] #[]])) (str gF) (Value.agg #[aa 2,.func (.func 61) #[] #[]])) (str gP) (Value.agg #[aa 2,.func (.func 61) #[] #[]])) (str g6) (Value.agg #[aa 2,.func (.func 61) #[] #[]])):=av
 have hg7:=jj (k:=g6) (v:=Value.agg #[aa 2,.func (.func 61) #[] #[]]) hg6
 have hE7:Wk w wm1_14:=M.trans' ab (fun k hk h=>by omega)
 refine p (bY (ps:= [(0,aa 2),(1,.func (.func 61) #[] #[])]) (L:= [aa 2,.func (.func 61) #[] #[]]) jm rfl (rfl)) (e (jf iO fp (aP) rfl rfl rfl (⟨_,rfl⟩) fun wm1_16 ac aw=> ?_))
 have aQ:bN wm1_16.heap a fK (bg (bg (bg (bg (bg (bg (bg (bg zF (str eM) (Value.agg #[aa 2,.func (.func 58) #[] #[]])) (str eZ) (Value.agg #[aa 2,.func (.func 59) #[] #[]])) (str fk) (Value.agg #[aa 2,.func (.func 60) #[] #[]])) (str gv) (Value.agg #[aa 2,.func (.func 61) #[] #[]])) (str gF) (Value.agg #[aa 2,.func (.func 61) #[] #[]])) (str gP) (Value.agg #[aa 2,.func (.func 61) #[] #[]])) (str g6) (Value.agg #[aa 2,.func (.func 61) #[] #[]])) (str im) (Value.agg #[aa 2,.func (.func 61) #[] #[]])):=aw
 have hg8:=jj (k:=im) (v:=Value.agg #[aa 2,.func (.func 61) #[] #[]]) hg7
 have O:Wk w wm1_16:=hE7.trans' ac (fun k hk h=>by omega)
 refine p (bY (ps:= [(0,aa 2),(1,.func (.func 62) #[] #[])]) (L:= [aa 2,.func (.func 62) #[] #[]]) jm rfl (rfl)) (e (jf iO fp (aQ) rfl rfl rfl (⟨_,rfl⟩) fun wm1_18 ag ax=> ?_))
 have aR:bN wm1_18.heap a fK (bg (bg (bg (bg (bg (bg (bg (bg (bg zF (str eM) (Value.agg #[aa 2,.func (.func 58) #[] #[]])) (str eZ) (Value.agg #[aa 2,.func (.func 59) #[] #[]])) (str fk) (Value.agg #[aa 2,.func (.func 60) #[] #[]])) (str gv) (Value.agg #[aa 2,.func (.func 61) #[] #[]])) (str gF) (Value.agg #[aa 2,.func (.func 61) #[] #[]])) (str gP) (Value.agg #[aa 2,.func (.func 61) #[] #[]])) (str g6) (Value.agg #[aa 2,.func (.func 61) #[] #[]])) (str im) (Value.agg #[aa 2,.func (.func 61) #[] #[]])) (str gu) (Value.agg #[aa 2,.func (.func 62) #[] #[]])):=ax
 have hg9:=jj (k:=gu) (v:=Value.agg #[aa 2,.func (.func 62) #[] #[]]) hg8
 have V:Wk w wm1_18:=O.trans' ag (fun k hk h=>by omega)
 refine p (bY (ps:= [(0,aa 2),(1,.func (.func 63) #[] #[])]) (L:= [aa 2,.func (.func 63) #[] #[]]) jm rfl (rfl)) (e (jf iO fp (aR) rfl rfl rfl (⟨_,rfl⟩) fun wm1_20 ai az=> ?_))
 have aS:bN wm1_20.heap a fK (bg (bg (bg (bg (bg (bg (bg (bg (bg (bg zF (str eM) (Value.agg #[aa 2,.func (.func 58) #[] #[]])) (str eZ) (Value.agg #[aa 2,.func (.func 59) #[] #[]])) (str fk) (Value.agg #[aa 2,.func (.func 60) #[] #[]])) (str gv) (Value.agg #[aa 2,.func (.func 61) #[] #[]])) (str gF) (Value.agg #[aa 2,.func (.func 61) #[] #[]])) (str gP) (Value.agg #[aa 2,.func (.func 61) #[] #[]])) (str g6) (Value.agg #[aa 2,.func (.func 61) #[] #[]])) (str im) (Value.agg #[aa 2,.func (.func 61) #[] #[]])) (str gu) (Value.agg #[aa 2,.func (.func 62) #[] #[]])) (str dD) (Value.agg #[aa 2,.func (.func 63) #[] #[]])):=az
 have hg10:=jj (k:=dD) (v:=Value.agg #[aa 2,.func (.func 63) #[] #[]]) hg9
 have C:Wk w wm1_20:=V.trans' ai (fun k hk h=>by omega)
 refine p (bY (ps:= [(0,aa 2),(1,.func (.func 64) #[] #[])]) (L:= [aa 2,.func (.func 64) #[] #[]]) jm rfl (rfl)) (e (jf iO fp (aS) rfl rfl rfl (⟨_,rfl⟩) fun wm1_22 aj aA=> ?_))
 have aI:bN wm1_22.heap a fK (bg (bg (bg (bg (bg (bg (bg (bg (bg (bg (bg zF (str eM) (Value.agg #[aa 2,.func (.func 58) #[] #[]])) (str eZ) (Value.agg #[aa 2,.func (.func 59) #[] #[]])) (str fk) (Value.agg #[aa 2,.func (.func 60) #[] #[]])) (str gv) (Value.agg #[aa 2,.func (.func 61) #[] #[]])) (str gF) (Value.agg #[aa 2,.func (.func 61) #[] #[]])) (str gP) (Value.agg #[aa 2,.func (.func 61) #[] #[]])) (str g6) (Value.agg #[aa 2,.func (.func 61) #[] #[]])) (str im) (Value.agg #[aa 2,.func (.func 61) #[] #[]])) (str gu) (Value.agg #[aa 2,.func (.func 62) #[] #[]])) (str dD) (Value.agg #[aa 2,.func (.func 63) #[] #[]])) (str db) (Value.agg #[aa 2,.func (.func 64) #[] #[]])):=aA
 have hg11:=jj (k:=db) (v:=Value.agg #[aa 2,.func (.func 64) #[] #[]]) hg10
 have E:Wk w wm1_22:=C.trans' aj (fun k hk h=>by omega)
 refine p (bY (ps:= [(0,aa 4),(1,.func (.func 65) #[] #[])]) (L:= [aa 4,.func (.func 65) #[] #[]]) jm rfl (rfl)) (e (jf iO fp (aI) rfl rfl rfl (⟨_,rfl⟩) fun wm1_24 ak aB=> ?_))
 have aJ:bN wm1_24.heap a fK (bg (bg (bg (bg (bg (bg (bg (bg (bg (bg (bg (bg zF (str eM) (Value.agg #[aa 2,.func (.func 58) #[] #[]])) (str eZ) (Value.agg #[aa 2,.func (.func 59) #[] #[]])) (str fk) (Value.agg #[aa 2,.func (.func 60) #[] #[]])) (str gv) (Value.agg #[aa 2,.func (.func 61) #[] #[]])) (str gF) (Value.agg #[aa 2,.func (.func 61) #[] #[]])) (str gP) (Value.agg #[aa 2,.func (.func 61) #[] #[]])) (str g6) (Value.agg #[aa 2,.func (.func 61) #[] #[]])) (str im) (Value.agg #[aa 2,.func (.func 61) #[] #[]])) (str gu) (Value.agg #[aa 2,.func (.func 62) #[] #[]])) (str dD) (Value.agg #[aa 2,.func (.func 63) #[] #[]])) (str db) (Value.agg #[aa 2,.func (.func 64) #[] #[]])) (str dP) (Value.agg #[aa 4,.func (.func 65) #[] #[]])):=aB
 have hg12:=jj (k:=dP) (v:=Value.agg #[aa 4,.func (.func 65) #[] #[]]) hg11
 have hE12:Wk w wm1_24:=E.trans' ak (fun k hk h=>by omega)
 refine p (bY (ps:= [(0,aa 4),(1,.func (.func 65) #[] #[])]) (L:= [aa 4,.func (.func 65) #[] #[]]) jm rfl (rfl)) (e (jf iO fp (aJ) rfl rfl rfl (⟨_,rfl⟩) fun wm1_26 al aC=> ?_))
 have aK:bN wm1_26.heap a fK (bg (bg (bg (bg (bg (bg (bg (bg (bg (bg (bg (bg (bg zF (str eM) (Value.agg #[aa 2,.func (.func 58) #[] #[]])) (str eZ) (Value.agg #[aa 2,.func (.func 59) #[] #[]])) (str fk) (Value.agg #[aa 2,.func (.func 60) #[] #[]])) (str gv) (Value.agg #[aa 2,.func (.func 61) #[] #[]])) (str gF) (Value.agg #[aa 2,.func (.func 61) #[] #[]])) (str gP) (Value.agg #[aa 2,.func (.func 61) #[] #[]])) (str g6) (Value.agg #[aa 2,.func (.func 61) #[] #[]])) (str im) (Value.agg #[aa 2,.func (.func 61) #[] #[]])) (str gu) (Value.agg #[aa 2,.func (.func 62) #[] #[]])) (str dD) (Value.agg #[aa 2,.func (.func 63) #[] #[]])) (str db) (Value.agg #[aa 2,.func (.func 64) #[] #[]])) (str dP) (Value.agg #[aa 4,.func (.func 65) #[] #[]])) (str bO) (Value.agg #[aa 4,.func (.func 65) #[] #[]])):=aC
 have hg13:=jj (k:=bO) (v:=Value.agg #[aa 4,.func (.func 65) #[] #[]]) hg12
 have G:Wk w wm1_26:=hE12.trans' al (fun k hk h=>by omega)
 exact p mv (ae (((j _ _ (rt (f1 rfl rfl (⟨a,rfl,aT,⟨_,aK,fun s=>hg13 s⟩,G⟩)))))))
end Go.Hb.j7
end
section
set_option maxRecDepth 20000
set_option maxHeartbeats 1000000
namespace Go.Hb.iw
open Go.Hb.di
open Go.Proofs
open Go.Hb.eS Go.Hb.fE Go.Hb.iQ Go.Hb.fN Go.Hb.kg Go.Hb.gA Go.Hb.lz Go.Hb.gW Go.Hb.kN Go.Hb.lx Go.Hb.gl Go.Hb.fQ
theorem cC.r3 {w w1 i:World} {B fb mc:Nat} {F:aH} {V:dV} {v:Value} {x:Tx×Tx} (h:cC w B fb mc F V) (hm:Md (fun k=>V.v9.ownBlock=some k) w w1) (p:World.ownsRow w1 B 163 2 v (F.bL++ [x]).length (gS (F.bL++ [x]))) (a:Md (fun k=>k=fb) w1 i) (hc:i.heap[fb]? =some (.cells (kp {F with bL:=F.bL++ [x]} {V with v9:=v} mc).toArray 89 (0,0))):cC i B fb mc {F with bL:=F.bL++ [x]} {V with v9:=v} :=by
 have hT:TF w [165] (fun k=>V.v9.ownBlock=some k):=TF.own h.o9 (by decide)
 have hcl:=hm.gp hT h.cells (by decide)
 have hT2:TF w1 [91] (fun k=>k=fb):=TF.eq (cR hcl) (by decide)
 have hfl:∀ k,V.v9.ownBlock=some k→∀ cur z,w.heap[k]?≠some (.cells cur 71 z):=eN h.o9 (by decide)
 have j:∀ k,k=fb→∀ cur z,w1.heap[k]?≠some (.cells cur 71 z):=dK hcl (by decide)
 obtain ⟨f,hf,q⟩:=h.cm
 have hmt:=dt (hf.md hm (hT.no (dt hf) (by decide)))
 exact ⟨hc,bW p a (fun k hk hf=>cg p hcl (by decide) (hf ▸ hk)),bE (bE h.dH hm hT (by decide)) a hT2 (by decide),(h.al.md hm hfl).md a j,bE (bE h.dp hm hT (by decide)) a hT2 (by decide),bE (bE h.cM hm hT (by decide)) a hT2 (by decide),(h.nx.md hm hfl).md a j,⟨f,(hf.md hm (hT.no (dt hf) (by decide))).md a (hT2.no hmt (by decide)),q⟩,h.lo,h.ee⟩
theorem cC.rY {w w1 j:World} {B fb mc:Nat} {F:aH} {V:dV} {v:Value} {x:List Nat} {vx:Value} (h:cC w B fb mc F V) (s:Tg w B 71 x.length vx (x.map aM)) (hm:Md (fun k=>V.v10.ownBlock=some k) w w1) (p:World.ownsRow w1 B 54 1 v (F.aliases++ [x]).length ((V.sa++ [vx]))) (a:Md (fun k=>k=fb) w1 j) (hc:j.heap[fb]? =some (.cells (kp {F with aliases:=F.aliases++ [x]} {V with v10:=v,sa:=V.sa++ [vx]} mc).toArray 89 (0,0))):cC j B fb mc {F with aliases:=F.aliases++ [x]} {V with v10:=v,sa:=V.sa++ [vx]} :=by
 have hT:TF w [56] (fun k=>V.v10.ownBlock=some k):=TF.own h.dH (by decide)
 have hcl:=hm.gp hT h.cells (by decide)
 have hT2:TF w1 [91] (fun k=>k=fb):=TF.eq (cR hcl) (by decide)
 have hfl:∀ k,V.v10.ownBlock=some k→∀ cur z,w.heap[k]?≠some (.cells cur 71 z):=eN h.dH (by decide)
 have i:∀ k,k=fb→∀ cur z,w1.heap[k]?≠some (.cells cur 71 z):=dK hcl (by decide)
 obtain ⟨f,hf,q⟩:=h.cm
 have hmt:=dt (hf.md hm (hT.no (dt hf) (by decide)))
 exact ⟨hc,bE (bE h.o9 hm hT (by decide)) a hT2 (by decide),bW p a (fun k hk hf=>cg p hcl (by decide) (hf ▸ hk)),((h.al.md hm hfl).md a i).snoc ((s.md hm hfl).md a i),bE (bE h.dp hm hT (by decide)) a hT2 (by decide),bE (bE h.cM hm hT (by decide)) a hT2 (by decide),(h.nx.md hm hfl).md a i,⟨f,(hf.md hm (hT.no (dt hf) (by decide))).md a (hT2.no hmt (by decide)),q⟩,h.lo,h.ee⟩
theorem cC.pB {w w1 j:World} {B fb mc:Nat} {F:aH} {V:dV} {v:Value} {x:eH} {vx:Value} (h:cC w B fb mc F V) (s:Tg w B 71 x.next.length vx (x.next.map aM)) (hm:Md (fun k=>V.cB.ownBlock=some k) w w1) (p:World.ownsRow w1 B 155 7 v (F.rules++ [x]).length (fU ((F.rules++ [x]).zip (V.rn++ [vx])))) (a:Md (fun k=>k=fb) w1 j) (hc:j.heap[fb]? =some (.cells (kp {F with rules:=F.rules++ [x]} {V with cB:=v,rn:=V.rn++ [vx]} mc).toArray 89 (0,0))):cC j B fb mc {F with rules:=F.rules++ [x]} {V with cB:=v,rn:=V.rn++ [vx]} :=by
 have hT:TF w [157] (fun k=>V.cB.ownBlock=some k):=TF.own h.cM (by decide)
 have hcl:=hm.gp hT h.cells (by decide)
 have hT2:TF w1 [91] (fun k=>k=fb):=TF.eq (cR hcl) (by decide)
 have hfl:∀ k,V.cB.ownBlock=some k→∀ cur z,w.heap[k]?≠some (.cells cur 71 z):=eN h.cM (by decide)
 have i:∀ k,k=fb→∀ cur z,w1.heap[k]?≠some (.cells cur 71 z):=dK hcl (by decide)
 obtain ⟨f,hf,q⟩:=h.cm
 have hmt:=dt (hf.md hm (hT.no (dt hf) (by decide)))
 exact ⟨hc,bE (bE h.o9 hm hT (by decide)) a hT2 (by decide),bE (bE h.dH hm hT (by decide)) a hT2 (by decide),(h.al.md hm hfl).md a i,bE (bE h.dp hm hT (by decide)) a hT2 (by decide),bW p a (fun k hk hf=>cg p hcl (by decide) (hf ▸ hk)),(by rw [List.map_append]; exact ((h.nx.md hm hfl).md a i).snoc ((s.md hm hfl).md a i)),⟨f,(hf.md hm (hT.no (dt hf) (by decide))).md a (hT2.no hmt (by decide)),q⟩,h.lo,h.ee⟩
theorem bS.own {w w':World} {B:Nat} {H:bM} {F:aH} {R:eF} {rows:List Rw} {ln:Nat} {seen:List Tx} {a e s n:Nat} {v:Value} {xs:List Value} (h:bS w B H F R rows ln seen) (j:World.ownsRow w a e s v n xs) (hm:Md (fun k=>v.ownBlock=some k) w w') (i:([e+2].contains 94 || [e+2].contains 107 || [e+2].contains 11 || [e+2].contains 5)=false):bS w' B H F R rows ln seen:=by
 have hT:TF w [e+2] (fun k=>v.ownBlock=some k):=TF.own j (by simp)
 obtain ⟨f,hf,_⟩:=h.sm
 obtain ⟨g,hg,_⟩:=h.tm
 exact h.md hm hT i (hT.no (dt hf) (by simp)) (hT.no (dt hg) (by simp))
theorem bS.ko {w w':World} {B:Nat} {H:bM} {F:aH} {R:eF} {rows:List Rw} {ln:Nat} {seen:List Tx} {cs:Array Value} {z:Nat×Nat} (h:bS w B H F R rows ln seen) (hc:w.heap[H.fb]? =some (.cells cs 89 z)) (hm:Md (fun k=>k=H.fb) w w'):bS w' B H F R rows ln seen:=by
 have hT:TF w [91] (fun k=>k=H.fb):=TF.eq (cR hc) (by decide)
 obtain ⟨f,hf,a⟩:=h.sm
 obtain ⟨g,hg,hg2⟩:=h.tm
 exact h.md hm hT (by decide) (hT.no (dt hf) (by decide)) (hT.no (dt hg) (by decide))
theorem Tg.uq {w:World} {b e n:Nat} {L:List Value} {z:Nat×Nat} (h:w.heap[b]? =some (.cells L.toArray e z)) (hn:n=L.length):Tg w b e n (.slice (some ⟨b,0,none⟩) n n) L:=⟨_,_,rfl,Nat.le_refl _,.inr ⟨b,_,_,rfl,Nat.le_refl _,h,fun j u hu=>by simpa using hu⟩⟩
theorem hZ.kV {F:aH} {q:Rw} {rest:List Rw} {seen:List Tx} (h:hZ F (q::rest) seen):hZ F rest seen:=⟨by have :=h.len; simp only [List.length_cons] at this; omega,by have :=h.sl; simp only [List.length_cons] at this; omega,fun q2 h2=>h.row q2 (List.mem_cons_of_mem _ h2),h.kd,h.al⟩
theorem AY {eof ln e:Nat} {F:aH} {rows:List Rw} {r:List Tx} (h:dy (r.getD 1 []) 256= .error e):gI eof F rows ln r= .error (ln,e):=by unfold gI; rw [h]
theorem oK {eof ln n:Nat} {F:aH} {rows:List Rw} {r:List Tx} {e:Nat×Nat} (h:dy (r.getD 1 []) 256= .ok n) (h1:group [dD] gH eof n rows= .error e):gI eof F rows ln r= .error e:=by unfold gI; rw [h]; simp only; rw [h1]
theorem Kh {eof ln n:Nat} {F:aH} {rows:List Rw} {r:List Tx} {q:List (Tx×Tx)×List Rw} (h:dy (r.getD 1 []) 256= .ok n) (h1:group [dD] gH eof n rows= .ok q):gI eof F rows ln r= .ok ({F with bL:=F.bL++q.1},q.2):=by unfold gI; rw [h]; simp only; rw [h1]
theorem uk {s:Tx} {most:Int} {n:Nat} (h:dy s most= .ok n):(n:Int)≤most:=by
 unfold dy at h
 split at h
 · cases h
 · rename_i h0; cases h; exact lY s most (Classical.not_not.1 h0)
theorem rW {eof ln:Nat} {F:aH} {hs:List Tx} {rows:List Rw} {r:List Tx} (h:dP∈hs∨bO∈hs):gn eof F hs rows ln r= .error (ln,113):=if_pos h
theorem vZ {eof ln e:Nat} {F:aH} {hs:List Tx} {rows:List Rw} {r:List Tx} (h0:¬(dP∈hs∨bO∈hs)) (h:dy (r.getD 1 []) 1024= .error e):gn eof F hs rows ln r= .error (ln,e):=by unfold gn; rw [if_neg h0,h]
theorem pz {eof ln n:Nat} {F:aH} {hs:List Tx} {rows:List Rw} {r:List Tx} {e:Nat×Nat} (h0:¬(dP∈hs∨bO∈hs)) (h:dy (r.getD 1 []) 1024= .ok n) (h1:group [db] (gN F.kind) eof n rows= .error e):gn eof F hs rows ln r= .error e:=by unfold gn; rw [if_neg h0,h]; simp only; rw [h1]
theorem CG {eof ln n:Nat} {F:aH} {hs:List Tx} {rows:List Rw} {r:List Tx} {q:List (List Nat)×List Rw} (h0:¬(dP∈hs∨bO∈hs)) (h:dy (r.getD 1 []) 1024= .ok n) (h1:group [db] (gN F.kind) eof n rows= .ok q):gn eof F hs rows ln r= .ok ({F with aliases:=F.aliases++q.1},q.2):=by unfold gn; rw [if_neg h0,h]; simp only; rw [h1]
theorem vY {kind ln:Nat} {r:List Tx} (h:r.length≠2):gN kind ln r= .error 111:=if_pos h
theorem pw {kind ln:Nat} {r:List Tx} (h:r.length=2):gN kind ln r=iL kind (r.getD 1 []):=if_neg (by omega)
theorem zf {kind:Nat} {s:Tx} (h:(cU kind s).2=0):(cU kind s).1.length≤64∧(cU kind s).1.Pairwise (· < ·):=by
 unfold cU at h ⊢
 split
 · simp
 · split
   · simp
   · split
     · simp
     · rename_i h3
       exact ⟨by have :=Jt ((b0 kind s).map (dm kind)); rw [List.length_map] at this; exact Nat.le_trans this (by omega),Av _⟩
theorem AU {ln:Nat} {r:List Tx} (h:r.length≠3):gH ln r= .error 111:=if_pos h
theorem AV {ln e:Nat} {r:List Tx} (h:r.length=3) (h1:dq false (r.getD 1 [])= .error e):gH ln r= .error e:=by unfold gH; rw [if_neg (by omega),h1]
theorem AW {ln e:Nat} {r:List Tx} {a:Tx} (h:r.length=3) (h1:dq false (r.getD 1 [])= .ok a) (h2:dq true (r.getD 2 [])= .error e):gH ln r= .error e:=by unfold gH; rw [if_neg (by omega),h1]; simp only; rw [h2]
theorem AX {ln:Nat} {r:List Tx} {a b:Tx} (h:r.length=3) (h1:dq false (r.getD 1 [])= .ok a) (h2:dq true (r.getD 2 [])= .ok b):gH ln r= .ok (a,b):=by unfold gH; rw [if_neg (by omega),h1]; simp only; rw [h2]
theorem Kj (B:Nat) (H:bM) (F:aH) (rows:List Rw) (ln:Nat) (seen:List Tx) (r:List Tx) (aA:Nat) (ac:Option Addr) (ae:Nat) (w:World) (A:St w B H F rows ln seen) (hT:Tg w aA 9 r.length (.slice ac r.length ae) (r.map str)) (hr:r.length=2) (hrl:∀ x∈r,x.length≤70000):
 dN Tryz.prog 63 (List.toArray [.pointer (some ⟨H.rb,0,none⟩),.slice ac r.length ae]) w (fP B H seen (gI H.eof F rows ln r) w) (fO B H (gI H.eof F rows ln r) w):=by
 obtain ⟨V,R,hF,ah,hB⟩:=A
 have hTs:=hT.bH
 have hr1:(r.getD 1 []).length≤70000:=hrl _ (c6 (by omega))
 have hlo:=ah.lo
 have hbl:=hB.len
 refine gr Tryz.func63 rfl Tryz.ntmps63 rfl ?_
 refine sq (fun a4 aK=>rg rfl (p (aB (.pointer (some ⟨H.rb,0,none⟩)) rfl) (p (aB (.slice ac r.length ae) rfl) (p (aJ bA rfl rfl (by omega) (ak.ok (hTs.2) (bl (by omega)))) (p (ld bw rfl (bh.get (i:=1) hTs.2 (by omega))) (eP rfl (cj pQ (qZ H.rb ln (r.getD 1 []) 256 w ah.bK (by omega) (by omega)) rfl fun v10 w10 hR10=> ?_) (fun c w' s aa hF=>by obtain ⟨e,he,h,h2⟩:=s; exact ⟨ln,e,AY he,h,Wk.mw h2⟩)))))))
 obtain ⟨n,hnx,rfl,ag⟩:=hR10
 have hnl:=uk hnx
 refine p mv (nl (tn (aK _ _ (az (lp (fun aq ab wI=> ∃ (i:Nat) (xs:List (Tx×Tx)) (rows':List Rw) (Z:Nat) (j:dV) (R':eF),(i≤n)∧(fu [dD] gH H.eof (group [dD] gH H.eof n rows) xs (n - i) rows')∧(xs.length=i)∧(cC wI B H.fb H.mc {F with bL:=F.bL++xs} j)∧(bS wI B H F R' rows' Z seen)∧(hZ {F with bL:=F.bL++xs} rows' seen)∧(dM B H w wI)∧(ab 0= .pointer (some ⟨H.rb,0,none⟩))∧(ab 10= .int .i64 (n:Nat))∧(ab 11= .int .i64 (i:Nat))∧(n - i=aq)) _ ⟨0,[],rows,ln,V,R,(by omega),fu.start,rfl,((by rw [List.append_nil]; exact hF.wk ag)),(ah.wk ag),((by rw [List.append_nil]; exact hB)),(Wk.mw ag),rfl,rfl,rfl,rfl⟩ ?_)))))
 rintro aq ab wI ⟨i,xs,rows',Z,j,R',hi,C,hxl,ar,O,M,hMw,a0,a1,a2,rfl⟩
 refine fx 0 a0 (fx 10 a1 (fx 11 a2 (sq (fun a5 aL=>rg rfl (p (lt rfl rfl) (nl (tn (aL _ _ (sq (fun a6 aM=>cd rfl (fun aW=> ?_) (fun aW=> ?_)))))))))))
 refine au (tn (aM _ _ (sq (fun a7 aN=>az (sq (fun a9 aP=>rg rfl (p (aB (.pointer (some ⟨H.rb,0,none⟩)) rfl) (e (m4 (L:= [str dD]) dU rfl rfl rfl rfl fun aE w14 hb14 aS aF=> ?_)))))))))
 have hE14:Wk wI w14:=aS.md
 have hMw14:=hMw.trans (Wk.mw hE14)
 refine eP rfl (cj sG (tS B H F R' rows' Z seen [dD] aE 1 _ _ w14 (O.wk hE14) (Tg.uq aF rfl) rfl (by decide) (fun q aZ=>(M.row q aZ).2.1)) rfl fun bk w15 hR15=> ?_) (fun c w' s aa hF=>by
  obtain ⟨h1,h2⟩:=s
  have hm:=hMw14.trans (dM.rb (O.wk hE14) h2)
  rcases h1 with ⟨rfl,h3⟩ | ⟨J,I,rest,rfl,h4,h3⟩
  exact ⟨_,_,oK hnx (C.ends (by omega)),h3,hm⟩
  exact ⟨_,_,oK hnx (C.other (by omega) h4),h3,hm⟩)
 obtain ⟨J,I,rest,rfl,Y,⟨aD,hR2⟩,hT15,hM15⟩:=hR15
 obtain ⟨bd,pG,rfl⟩:=hT15.slice
 have hF2:=(ar.wk hE14).rb (O.wk hE14) hM15
 have hMw2:=hMw14.trans (dM.rb (O.wk hE14) hM15)
 have hrow:I≠[]∧I.length≤70000∧∀ x∈I,x.length≤70000:=M.row (J,I) (by simp)
 have hB2:=hZ.kV M
 have hT15s:=hT15.bH
 have hbl2:=M.len
 simp only [List.length_cons,List.length_append] at hbl2
 refine p aj (nl (tn (aP _ _ (sq (fun bb aQ=>rg rfl (p (aB (.pointer (some ⟨H.rb,0,none⟩)) rfl) (p mv (p (ba c9 rfl rfl) ?_))))))))
 refine p (a8 rfl rfl) (eP rfl (cj eT (e4 H.rb J _ 111 w15 hR2.bK (by decide)) rfl fun v20 w20 aT=> ?_) (fun c w' s aa hF=>⟨_,_,oK hnx (C.bad (by omega) Y (AU (by have :=of_decide_eq_false s.2.1; omega))),s.1,by rw [s.2.2]; exact hMw2⟩))
 obtain ⟨rfl,a3,rfl⟩:=aT
 have an:I.length=3:=by have :=of_decide_eq_true a3; omega
 have hl1:=hrow.2.2 _ (c6 (d:= []) (i:=1) (by omega))
 have hl2:=hrow.2.2 _ (c6 (d:= []) (i:=2) (by omega))
 refine nl (tn (aQ _ _ (sq (fun bc aR=>rg rfl (p (aB (.pointer (some ⟨H.rb,0,none⟩)) rfl) (p mv (p (aJ bA rfl rfl (by omega) (ak.ok (hT15s.2) (bl (by omega)))) (p (ld bw rfl (bh.get (i:=1) hT15s.2 (by omega))) ?_))))))))
 refine eP rfl (cj xJ (AJ H.rb J (I.getD 1 []) w20 hR2.bK (by omega)) rfl fun bm w25 aU=> ?_) (fun c w' s aa hF=>by obtain ⟨e,he,h,h2⟩:=s; exact ⟨_,_,oK hnx (C.bad (by omega) Y (AV an he)),h,hMw2.trans (Wk.mw h2)⟩)
 obtain ⟨E,ay,rfl,hE25⟩:=aU
 have hF3:=hF2.wk hE25
 have hR3:=hR2.wk hE25
 have hT3:=hT15.wk hE25
 have hMw3:=hMw2.trans (Wk.mw hE25)
 have am:¬(j.v9.ownBlock=some H.rb):=cg hF3.o9 hR3.cells (by decide)
 have aX:¬(j.v9.ownBlock=some H.fb):=cg hF3.o9 hF3.cells (by decide)
 refine p aj (nl (tn (aR _ _ ?_)))
 have a:(fun w'=>Md (fun k=>j.v9.ownBlock=some k) w25 w') w25.drew:=(Md.refl _ _).drew
 refine dG (fun w'=>Md (fun k=>j.v9.ownBlock=some k) w25 w') 24 rfl wide a (bT 0 rfl (by kernel_rfl) (fun _=>aB (.pointer (some ⟨H.rb,0,none⟩)) rfl) (fun _=>a) (bT 1 rfl (by kernel_rfl) (fun _=>nc rfl) (fun _=>a) (bT 2 rfl (by kernel_rfl) (fun _=>fa eL rfl) (fun _=>a) (gG 3 rfl (by kernel_rfl) (fun w' A=>ld eo rfl (Md.aC A ((aO hR3.cells).trans rfl) am)) a (bT 4 rfl (by kernel_rfl) (fun _=>aB (.pointer (some ⟨H.rb,0,none⟩)) rfl) (fun _=>a) (bT 5 rfl (by kernel_rfl) (fun _=>nc rfl) (fun _=>a) (bT 6 rfl (by kernel_rfl) (fun _=>fa eL rfl) (fun _=>a) ?_)))))))
 refine gG 7 rfl (by kernel_rfl) (fun w' A=>ld eo rfl (Md.aC A ((aO hR3.cells).trans rfl) am)) a (bT 8 rfl (by kernel_rfl) (fun _=>nc rfl) (fun _=>a) (bT 9 rfl (by kernel_rfl) (fun _=>fa et rfl) (fun _=>a) (bT 10 rfl (by kernel_rfl) (fun _=>fa qv rfl) (fun _=>a) (gG 11 rfl (by kernel_rfl) (fun w' A=>ld vW rfl (Md.aC A ((aO hF3.cells).trans rfl) aX)) a (bT 12 rfl (by kernel_rfl) (fun _=>mv) (fun _=>a) (bT 13 rfl (by kernel_rfl) (fun _=>aB (.pointer (some ⟨H.rb,0,none⟩)) rfl) (fun _=>a) (bT 14 rfl (by kernel_rfl) (fun _=>mv) (fun _=>a) ?_)))))))
 refine bT 15 rfl (by kernel_rfl) (fun _=>aJ bA rfl rfl (by omega) (ak.ok (hT3.bH.2) (bl (by omega)))) (fun _=>a) (gG 16 rfl (by kernel_rfl) (fun w' A=>ld bw rfl (bh.get (i:=2) (hT3.md A (eN hF3.o9 (by decide))).bH.2 (by omega))) a (z6 17 rfl (by kernel_rfl) rfl (cj wU (AG H.rb J (I.getD 2 []) w25.drew (Md.aC a hR3.bK am) (by omega)) rfl fun bo w43 aV=> ?_) (fun c w' s aa hF=>by obtain ⟨e,he,h,h2⟩:=s; exact ⟨_,_,oK hnx (C.bad (by omega) Y (AW an ay he)),h,hMw3.trans (Wk.mw (e6 h2))⟩)))
 obtain ⟨G,aY,rfl,hE43⟩:=aV
 have hE43:=e6 hE43
 have ai:(fun w'=>Md (fun k=>j.v9.ownBlock=some k) w25 w') w43:=Md.mono hE43 (fun _ _ h=>h.elim)
 refine ⟨ai,?_⟩
 refine bT 18 rfl (by kernel_rfl) (fun _=>bY (ps:= [(0,str E),(1,str G)]) (L:= [str E,str G]) Ll rfl (rfl)) (fun _=>ai) (fA 19 rfl (by kernel_rfl) (ib rl rfl rfl rfl fun bf w45 bg av aG=> ?_))
 have hE45:=hE43.trans av.md
 have hF4:=hF3.wk hE45
 have hR4:=hR3.wk hE45
 have aw:(fun w'=>Md (fun k=>j.v9.ownBlock=some k) w25 w') w45:=ai.trans' av.md (fun _ _ h=>h.elim)
 refine ⟨aw,?_⟩
 refine fA 20 rfl (by kernel_rfl) (ap rl (hF4.o9) rfl (by have :=(Array.getElem?_eq_some_iff.1 hR4.cells).1; omega) rfl (ak.cQ aG) (rfl) (rfl) (by simp only [List.length_append]; omega) (by simp only [List.length_append]; omega) fun ao w46 ax hM46 bj bi=> ?_)
 have hMw5:=(hMw3.trans (Wk.mw hE45)).trans (Mw.of hM46 (TF.own hF4.o9 (by decide)) (fun k hk=>(c7 hF4.o9 hk).1))
 have hR5:=bS.own hR4 hF4.o9 hM46 (by decide)
 have hc5:=hM46.az hF4.cells (cg hF4.o9 hF4.cells (by decide))
 have ho46x:World.ownsRow w46 B 163 2 ao ((F.bL++xs)++ [(E,G)]).length (gS ((F.bL++xs)++ [(E,G)])):=by rw [show gS ((F.bL++xs)++ [(E,G)])=gS (F.bL++xs)++ [str E,str G] from by simp [gS],List.length_append]; exact ax
 have U:(fun w'=>Md (fun k=>j.v9.ownBlock=some k) w25 w') w46:=aw.trans' hM46 (fun _ _ h=>h)
 refine ⟨U,?_⟩
 refine bT 21 rfl (by kernel_rfl) (fun _=>nc rfl) (fun _=>U) (bT 22 rfl (by kernel_rfl) (fun _=>fa et rfl) (fun _=>U) (bT 23 rfl (by kernel_rfl) (fun _=>fa qv rfl) (fun _=>U) (cD 24 rfl (by kernel_rfl) (by kernel_rfl) (ca x7 rfl rfl (v:=ao) (dT ax) hc5 (by show _ < 14; omega) fun w9 hM9 aI=> ?_))))
 refine dF (by kernel_rfl) ?_
 exact bn (tn (aN _ _ (rg rfl (p (ad rfl rfl (bp (by omega))) (p mv (nl (tn (⟨_,by omega,i+1,xs++ [(E,G)],rest,J,{j with v9:=ao},aD,(by omega),((by rw [show n - (i+1)=n - i - 1 by omega]; exact C.step (by omega) Y (AX an ay aY))),((by rw [List.length_append,hxl]; rfl)),((by rw [← List.append_assoc]; exact cC.r3 (x:=(E,G)) hF4 hM46 ho46x hM9 aI)),(bS.ko hR5 hc5 hM9),(⟨by simp only [List.length_append,List.length_singleton]; omega,hB2.sl,hB2.row,hB2.kd,hB2.al⟩),(hMw5.trans (Mw.of hM9 (TF.eq (cR hc5) (by decide)) (fun k hk=>hk ▸ hF4.lo.1))),rfl,rfl,rfl,rfl⟩))))))))
 refine ext (te _ (te _ (be (fY ?_))))
 refine f0 rfl ?_
 rw [show n - i=0 by omega] at C
 exact ⟨rfl,_,rows',Z,Kh hnx C.done,⟨j,R',ar,O.congr rfl (fun _=>rfl),M⟩,hMw⟩
theorem CF (B:Nat) (H:bM) (F:aH) (rows:List Rw) (ln:Nat) (seen:List Tx) (r:List Tx) (aL:Nat) (am:Option Addr) (an:Nat) (w:World) (j:St w B H F rows ln seen) (hT:Tg w aL 9 r.length (.slice am r.length an) (r.map str)) (hr:r.length=2) (hrl:∀ x∈r,x.length≤70000):
 dN Tryz.prog 64 (List.toArray [.pointer (some ⟨H.rb,0,none⟩),.slice am r.length an]) w (fP B H seen (gn H.eof F seen rows ln r) w) (fO B H (gn H.eof F seen rows ln r) w):=by
 obtain ⟨V,R,hF,I,hB⟩:=j
 have hTs:=hT.bH
 have hr1:(r.getD 1 []).length≤70000:=hrl _ (c6 (by omega))
 have hlo:=I.lo
 have hbl:=hB.len
 obtain ⟨bP,aG,aI⟩:=I.sm
 have hcp:=List.count_le_length (a:=dP) (l:=seen)
 have hcs:=List.count_le_length (a:=bO) (l:=seen)
 have hsl:=hB.sl
 refine gr Tryz.func64 rfl Tryz.ntmps64 rfl ?_
 refine sq (fun bs aU=> ?_)
 have hS0:(fun w'=>Wk w w') w.drew:=(Md.refl _ _).drew
 refine bC (fun w'=>Wk w w') rfl wide hS0 (hp 0 rfl (by kernel_rfl) (fun _ _=>aB (.pointer (some ⟨H.rb,0,none⟩)) rfl) hS0 (hp 1 rfl (by kernel_rfl) (fun _ _=>aB (.pointer (some ⟨H.rb,0,none⟩)) rfl) hS0 (hp 2 rfl (by kernel_rfl) (fun _ _=>nc rfl) hS0 (hp 3 rfl (by kernel_rfl) (fun _ _=>fa nj rfl) hS0 (hp 4 rfl (by kernel_rfl) (fun w' j=>ld m3 rfl (Wk.aC j ((aO I.cells).trans rfl))) hS0 (hp 5 rfl (by kernel_rfl) (fun w' j=>j0 l8 kJ fp (bN.md (aG) j id) rfl rfl (⟨_,rfl⟩) (aI dP)) hS0 (hp 6 rfl (by kernel_rfl) (fun _ _=>aB (.pointer (some ⟨H.rb,0,none⟩)) rfl) hS0 ?_)))))))
 refine hp 7 rfl (by kernel_rfl) (fun _ _=>nc rfl) hS0 (hp 8 rfl (by kernel_rfl) (fun _ _=>fa nj rfl) hS0 (hp 9 rfl (by kernel_rfl) (fun w' j=>ld m3 rfl (Wk.aC j ((aO I.cells).trans rfl))) hS0 (hp 10 rfl (by kernel_rfl) (fun w' j=>j0 l8 kJ fp (bN.md (aG) j id) rfl rfl (⟨_,rfl⟩) (aI bO)) hS0 (hp 11 rfl (by kernel_rfl) (fun _ _=>a9 ((seen.count dP+seen.count bO:Nat):Int) rfl rfl (aQ (by omega) (by omega))) hS0 (hp 12 rfl (by kernel_rfl) (fun _ _=>a8 rfl rfl) hS0 ?_)))))
 refine nk 13 rfl (by kernel_rfl) rfl (cj eT (e4 H.rb ln _ 113 w.drew (Wk.aC hS0 I.bK) (by decide)) rfl fun v20 w20 a5=> ?_) (fun c w' s ah hF=>⟨ln,113,rW (Classical.byContradiction fun h2=>by
  have h1:=List.count_eq_zero.2 (fun h=>h2 (Or.inl h))
  have h3:=List.count_eq_zero.2 (fun h=>h2 (Or.inr h))
  exact of_decide_eq_false s.2.1 (by omega)),s.1,by rw [s.2.2]; exact Wk.mw hS0⟩)
 obtain ⟨rfl,bq,aK⟩:=a5
 have ac:Wk w w20:=by rw [aK]; exact (Md.refl _ _).drew
 have U:¬(dP∈seen∨bO∈seen):=by
  have h0:=of_decide_eq_true bq
  rintro (h | h)
  have :=List.count_pos_iff.2 h; omega
  have :=List.count_pos_iff.2 h; omega
 have hR0:=I.wk ac
 have hT0s:=(hT.wk ac).bH
 have bd:(fun w'=>Wk w w') w20:=by rw [aK]; exact hS0
 refine ⟨bd,?_⟩
 refine hn (by kernel_rfl) (tn (aU _ _ (sq (fun bt aV=>rg rfl (p (aB (.pointer (some ⟨H.rb,0,none⟩)) rfl) (p (aB (.slice am r.length an) rfl) (p (aJ bA rfl rfl (by omega) (ak.ok (hT0s.2) (bl (by omega)))) (p (ld bw rfl (bh.get (i:=1) hT0s.2 (by omega))) ?_))))))))
 refine eP rfl (cj pQ (qZ H.rb ln (r.getD 1 []) 1024 w20 hR0.bK (by omega) (by omega)) rfl fun bU w25 a6=> ?_) (fun c w' s ah hF=>by obtain ⟨e,he,h,h2⟩:=s; exact ⟨ln,e,vZ U he,h,Wk.mw (ac.trans h2)⟩)
 obtain ⟨n,hnx,rfl,hE25⟩:=a6
 have hnl:=uk hnx
 have hE25:=ac.trans hE25
 refine p mv (nl (tn (aV _ _ (az (lp (fun aw ai wI=> ∃ (i:Nat) (xs:List (List Nat)) (rows':List Rw) (ag:Nat) (C:dV) (R':eF),(i≤n)∧(fu [db] (gN F.kind) H.eof (group [db] (gN F.kind) H.eof n rows) xs (n - i) rows')∧(xs.length=i)∧(cC wI B H.fb H.mc {F with aliases:=F.aliases++xs} C)∧(bS wI B H F R' rows' ag seen)∧(hZ {F with aliases:=F.aliases++xs} rows' seen)∧(dM B H w wI)∧(ai 0= .pointer (some ⟨H.rb,0,none⟩))∧(ai 25= .int .i64 (n:Nat))∧(ai 26= .int .i64 (i:Nat))∧(n - i=aw)) _ ⟨0,[],rows,ln,V,R,(by omega),fu.start,rfl,((by rw [List.append_nil]; exact hF.wk hE25)),(I.wk hE25),((by rw [List.append_nil]; exact hB)),(Wk.mw hE25),rfl,rfl,rfl,rfl⟩ ?_)))))
 rintro aw ai wI ⟨i,xs,rows',ag,C,R',hi,J,hxl,ax,Z,M,hMw,bk,bm,bo,rfl⟩
 refine fx 0 bk (fx 25 bm (fx 26 bo (sq (fun bu aW=>rg rfl (p (lt rfl rfl) (nl (tn (aW _ _ (sq (fun bv aX=>cd rfl (fun bf=> ?_) (fun bf=> ?_)))))))))))
 refine au (tn (aX _ _ (sq (fun bx aY=>az (sq (fun bz aZ=>rg rfl (p (aB (.pointer (some ⟨H.rb,0,none⟩)) rfl) (e (m4 (L:= [str db]) dU rfl rfl rfl rfl fun aN w14 hb14 a3 aP=> ?_)))))))))
 have hE14:Wk wI w14:=a3.md
 have hMw14:=hMw.trans (Wk.mw hE14)
 refine eP rfl (cj sG (tS B H F R' rows' ag seen [db] aN 1 _ _ w14 (Z.wk hE14) (Tg.uq aP rfl) rfl (by decide) (fun q bj=>(M.row q bj).2.1)) rfl fun bR w15 hR15=> ?_) (fun c w' s ah hF=>by
  obtain ⟨h1,h2⟩:=s
  have hm:=hMw14.trans (dM.rb (Z.wk hE14) h2)
  rcases h1 with ⟨rfl,h3⟩ | ⟨aa,G,rest,rfl,h4,h3⟩
  exact ⟨_,_,pz U hnx (J.ends (by omega)),h3,hm⟩
  exact ⟨_,_,pz U hnx (J.other (by omega) h4),h3,hm⟩)
 obtain ⟨aa,G,rest,rfl,aq,⟨aM,hR2⟩,hT15,hM15⟩:=hR15
 obtain ⟨bF,pG,rfl⟩:=hT15.slice
 have hF2:=(ax.wk hE14).rb (Z.wk hE14) hM15
 have hMw2:=hMw14.trans (dM.rb (Z.wk hE14) hM15)
 have hrow:G≠[]∧G.length≤70000∧∀ x∈G,x.length≤70000:=M.row (aa,G) (by simp)
 have hB2:=hZ.kV M
 have hT15s:=hT15.bH
 have hbl2:=M.len
 simp only [List.length_cons,List.length_append] at hbl2
 refine p aj (nl (tn (aZ _ _ (sq (fun bB a0=>rg rfl (p (aB (.pointer (some ⟨H.rb,0,none⟩)) rfl) (p mv (p (ba c9 rfl rfl) ?_))))))))
 refine p (a8 rfl rfl) (eP rfl (cj eT (e4 H.rb aa _ 111 w15 hR2.bK (by decide)) rfl fun bV w35 a7=> ?_) (fun c w' s ah hF=>⟨_,_,pz U hnx (J.bad (by omega) aq (vY (by have :=of_decide_eq_false s.2.1; omega))),s.1,by rw [s.2.2]; exact hMw2⟩))
 obtain ⟨rfl,br,rfl⟩:=a7
 have aF:G.length=2:=by have :=of_decide_eq_true br; omega
 have hl1:=hrow.2.2 _ (c6 (d:= []) (i:=1) (by omega))
 refine nl (tn (a0 _ _ (sq (fun bD a1=> ?_))))
 have E:(fun w'=>Wk w35 w') w35.drew:=(Md.refl _ _).drew
 refine bC (fun w'=>Wk w35 w') rfl wide E (hp 0 rfl (by kernel_rfl) (fun _ _=>aB (.pointer (some ⟨H.rb,0,none⟩)) rfl) E (hp 1 rfl (by kernel_rfl) (fun _ _=>nc rfl) E (hp 2 rfl (by kernel_rfl) (fun _ _=>fa eL rfl) E (hp 3 rfl (by kernel_rfl) (fun w' j=>ld eo rfl (Wk.aC j ((aO hR2.cells).trans rfl))) E (hp 4 rfl (by kernel_rfl) (fun _ _=>nc rfl) E (hp 5 rfl (by kernel_rfl) (fun _ _=>fa et rfl) E (hp 6 rfl (by kernel_rfl) (fun _ _=>fa ng rfl) E ?_)))))))
 refine hp 7 rfl (by kernel_rfl) (fun w' j=>ld bQ rfl (Wk.aC j ((aO hF2.cells).trans rfl))) E (hp 8 rfl (by kernel_rfl) (fun _ _=>mv) E (hp 9 rfl (by kernel_rfl) (fun _ _=>aJ bA rfl rfl (by omega) (ak.ok (hT15s.2) (bl (by omega)))) E (hp 10 rfl (by kernel_rfl) (fun w' j=>ld bw rfl (Wk.aC j (bh.get (i:=1) hT15s.2 (by omega)))) E (he 11 rfl (by kernel_rfl) (cl wV (zj F.kind (G.getD 1 []) _ hB.kd (by omega)) rfl fun bW w48 bb=> ?_)))))
 obtain ⟨⟨ab,rfl,ao⟩,hE48⟩:=bb
 have hE48:=e6 hE48
 have hF3:=hF2.wk hE48
 have hR3:=hR2.wk hE48
 have hMw3:=hMw2.trans (Wk.mw hE48)
 have aA:¬(C.v10.ownBlock=some H.rb):=cg hF3.dH hR3.cells (by decide)
 have bg:¬(C.v10.ownBlock=some H.fb):=cg hF3.dH hF3.cells (by decide)
 have aT:B≤w35.heap.size:=by have :=(Array.getElem?_eq_some_iff.1 hR2.cells).1; omega
 have O:(fun w'=>Wk w35 w') w48:=hE48
 refine ⟨O,?_⟩
 refine hp 12 rfl (by kernel_rfl) (fun _ _=>mv) O (hp 13 rfl (by kernel_rfl) (fun _ _=>xt rfl rfl) O (hp 14 rfl (by kernel_rfl) (fun _ _=>xt rfl rfl) O (hp 15 rfl (by kernel_rfl) (fun _ _=>aj) O (hp 16 rfl (by kernel_rfl) (fun _ _=>aj) O (hn (by kernel_rfl) (tn (a1 _ _ (sq (fun bE a2=> ?_)))))))))
 refine rg rfl (p (aB (.pointer (some ⟨H.rb,0,none⟩)) rfl) (p mv (eP rfl (cj gZ (ku H.rb aa ((cU F.kind (G.getD 1 [])).2:Nat) w48 hR3.bK) rfl fun bX w53 bc=> ?_) (fun c w' s ah hF=>⟨_,_,pz U hnx (J.bad (by omega) aq (by rw [pw aF]; exact qw (by have :=s.2.1; omega))),s.1,by rw [s.2.2]; exact hMw3⟩))))
 obtain ⟨rfl,ar,rfl⟩:=bc
 have ar:(cU F.kind (G.getD 1 [])).2=0:=by omega
 have hfo:=zf ar
 refine nl (tn (a2 _ _ ?_))
 have A:(fun w'=>Md (fun k=>C.v10.ownBlock=some k) w53 w') w53.drew:=(Md.refl _ _).drew
 refine dG (fun w'=>Md (fun k=>C.v10.ownBlock=some k) w53 w') 18 rfl wide A (bT 0 rfl (by kernel_rfl) (fun _=>aB (.pointer (some ⟨H.rb,0,none⟩)) rfl) (fun _=>A) (bT 1 rfl (by kernel_rfl) (fun _=>nc rfl) (fun _=>A) (bT 2 rfl (by kernel_rfl) (fun _=>fa eL rfl) (fun _=>A) (gG 3 rfl (by kernel_rfl) (fun w' j=>ld eo rfl (Md.aC j ((aO hR3.cells).trans rfl) aA)) A (bT 4 rfl (by kernel_rfl) (fun _=>aB (.pointer (some ⟨H.rb,0,none⟩)) rfl) (fun _=>A) (bT 5 rfl (by kernel_rfl) (fun _=>nc rfl) (fun _=>A) (bT 6 rfl (by kernel_rfl) (fun _=>fa eL rfl) (fun _=>A) ?_)))))))
 refine gG 7 rfl (by kernel_rfl) (fun w' j=>ld eo rfl (Md.aC j ((aO hR3.cells).trans rfl) aA)) A (bT 8 rfl (by kernel_rfl) (fun _=>nc rfl) (fun _=>A) (bT 9 rfl (by kernel_rfl) (fun _=>fa et rfl) (fun _=>A) (bT 10 rfl (by kernel_rfl) (fun _=>fa kZ rfl) (fun _=>A) (gG 11 rfl (by kernel_rfl) (fun w' j=>ld mm rfl (Md.aC j ((aO hF3.cells).trans rfl) bg)) A (bT 12 rfl (by kernel_rfl) (fun _=>mv) (fun _=>A) (fA 13 rfl (by kernel_rfl) (ea rm rfl (dT ao) fun bG w67 bI a4 aR=> ?_)))))))
 have hE67:=e6 a4.md
 have hF4:=hF3.wk hE67
 have hR4:=hR3.wk hE67
 have hTx:=(Tg.fT (aE ao hE67)).mono aT
 have ay:(fun w'=>Md (fun k=>C.v10.ownBlock=some k) w53 w') w67:=Md.mono hE67 (fun _ _ h=>h.elim)
 refine ⟨ay,?_⟩
 refine fA 14 rfl (by kernel_rfl) (ap rm (hF4.dH) rfl (by have :=(Array.getElem?_eq_some_iff.1 hR4.cells).1; omega) rfl (ak.cQ aR) (rfl) (by show List.all [ab] Value.oneCell'=true; simp only [List.all_cons,List.all_nil,dT ao,Bool.and_self]) (by simp only [List.length_append]; omega) (by simp only [List.length_append]; omega) fun av w68 aD Y bL bJ=> ?_)
 have hMw5:=(hMw3.trans (Wk.mw hE67)).trans (Mw.of Y (TF.own hF4.dH (by decide)) (fun k hk=>(c7 hF4.dH hk).1))
 have hR5:=bS.own hR4 hF4.dH Y (by decide)
 have hc5:=Y.az hF4.cells (cg hF4.dH hF4.cells (by decide))
 have bi:World.ownsRow w68 B 54 1 av ((F.aliases++xs)++ [(cU F.kind (G.getD 1 [])).1]).length (C.sa++ [ab]):=by rw [List.length_append]; exact aD
 have ae:(fun w'=>Md (fun k=>C.v10.ownBlock=some k) w53 w') w68:=ay.trans' Y (fun _ _ h=>h)
 refine ⟨ae,?_⟩
 refine bT 15 rfl (by kernel_rfl) (fun _=>nc rfl) (fun _=>ae) (bT 16 rfl (by kernel_rfl) (fun _=>fa et rfl) (fun _=>ae) (bT 17 rfl (by kernel_rfl) (fun _=>fa kZ rfl) (fun _=>ae) (cD 18 rfl (by kernel_rfl) (by kernel_rfl) (ca x8 rfl rfl (v:=av) (dT aD) hc5 (by show _ < 14; omega) fun w9 hM9 aS=> ?_))))
 refine dF (by kernel_rfl) ?_
 exact bn (tn (aY _ _ (rg rfl (p (ad rfl rfl (bp (by omega))) (p mv (nl (tn (⟨_,by omega,i+1,xs++ [(cU F.kind (G.getD 1 [])).1],rest,aa,{C with v10:=av,sa:=C.sa++ [ab]},aM,(by omega),((by rw [show n - (i+1)=n - i - 1 by omega]; exact J.step (by omega) aq (by rw [pw aF]; exact qy ar))),((by rw [List.length_append,hxl]; rfl)),((by rw [← List.append_assoc]; exact cC.rY (x:=(cU F.kind (G.getD 1 [])).1) (vx:=ab) hF4 hTx Y bi hM9 aS)),(bS.ko hR5 hc5 hM9),(⟨by simp only [List.length_append,List.length_singleton]; omega,hB2.sl,hB2.row,hB2.kd,(by intro l hl; rw [← List.append_assoc] at hl; rcases List.mem_append.1 hl with hl | hl; exact M.al l hl; rw [List.mem_singleton.1 hl]; exact hfo)⟩),(hMw5.trans (Mw.of hM9 (TF.eq (cR hc5) (by decide)) (fun k hk=>hk ▸ hF4.lo.1))),rfl,rfl,rfl,rfl⟩))))))))
 refine ext (te _ (te _ (be (fY ?_))))
 refine f0 rfl ?_
 rw [show n - i=0 by omega] at J
 exact ⟨rfl,_,rows',ag,CG U hnx J.done,⟨C,R',ax,Z.congr rfl (fun _=>rfl),M⟩,hMw⟩
end Go.Hb.iw
end
section
set_option maxRecDepth 20000
set_option maxHeartbeats 1000000
namespace Go.Hb.gU
open Go.Proofs
open Go.Hb.eS Go.Hb.fE Go.Hb.iQ Go.Hb.fN Go.Hb.iw
def Nx (F:aH):Prop :=(∀ l∈F.aliases,l.length≤64)∧∀ q∈F.rules,q.next.length≤64
theorem tL {α:Type} {hd:List Tx} {rd:Nat→List Tx→Except Nat α} {eof:Nat} :∀ (n:Nat) (rows:List Rw) (r:List α×List Rw),group hd rd eof n rows= .ok r→∀ x∈r.1,∃ ln row,rd ln row= .ok x:=by
 intro n
 induction n with
 | zero=>intro rows r h; simp only [group,Except.ok.injEq] at h; subst h; intro x a; cases a
 | succ n ih=>
   intro rows r h
   cases rows with
   | nil=>simp [group] at h
   | cons q rows=>
     obtain ⟨ln,row⟩:=q
     simp only [group] at h
     split at h
     · cases h
     · cases hr:rd ln row with
       | error e=>rw [hr] at h; cases h
       | ok y=>
         rw [hr] at h
         simp only at h
         cases hg:group hd rd eof n rows with
         | error e=>rw [hg] at h; cases h
         | ok i=>
           rw [hg] at h
           simp only [Except.ok.injEq] at h
           subst h
           intro x a
           rcases List.mem_cons.1 a with a | a
           · exact ⟨ln,row,by rw [a]; exact hr⟩
           · exact ih rows i hg x a
theorem zg {kind:Nat} {s:Tx} {l:List Nat} (h:iL kind s= .ok l):l.length≤64:=by
 unfold iL at h
 split at h
 · cases h
 · rename_i h0
   cases h
   exact (zf (Classical.not_not.1 h0)).1
theorem CD {kind ln:Nat} {row:List Tx} {l:List Nat} (h:gN kind ln row= .ok l):l.length≤64:=by
 unfold gN at h
 split at h
 · cases h
 · exact zg h
theorem qj {kind:Nat} {al:List (List Nat)} {s:Tx} {l:List Nat} (hal:∀ l∈al,l.length≤64) (h:ec kind al s= .ok l):l.length≤64:=by
 unfold ec at h
 split at h
 · exact zg h
 · split at h
   · cases h
   · split at h
     · cases h
     · cases h
       rename_i n _ _
       rw [List.getD_eq_getElem?_getD]
       cases hg:al[n - 1]? with
       | none=>simp
       | some x=>exact hal x (List.mem_of_getElem? hg)
theorem KD {kind ln:Nat} {al:List (List Nat)} {c:bV} {row:List Tx} {q:eH} (hal:∀ l∈al,l.length≤64) (h:ew kind al c ln row= .ok q):q.next.length≤64:=by
 unfold ew at h
 split at h
 · cases h
 · split at h
   · cases h
   · split at h
     · cases h
     · split at h
       · cases h
       · rename_i nx hnx
         split at h
         · cases h
         · cases h
           unfold g9 at hnx
           split at hnx
           · split at hnx
             · cases hnx
             · exact qj hal hnx
           · cases hnx; simp
theorem qF {eof ln:Nat} {F F':aH} {hs:List Tx} {rows rows':List Rw} {row:List Tx} (h:Nx F) (a:bz eof F hs rows ln row= .ok (F',rows')):Nx F':=by
 unfold bz at a
 split at a
 · unfold gK at a
   split at a
   · cases a
   · cases a; exact h
 · split at a
   · unfold gQ at a
     split at a
     · cases a
     · split at a
       · cases a
       · cases a; exact h
   · split at a
     · unfold jH at a
       split at a
       · cases a
       · cases a; exact h
     · split at a
       · unfold jM at a
         split at a
         · cases a
         · cases a; exact h
       · split at a
         · unfold g8 at a
           split at a
           · cases a
           · split at a
             · cases a
             · cases a; exact h
         · split at a
           · unfold gI at a
             split at a
             · cases a
             · split at a
               · cases a
               · cases a; exact h
           · split at a
             · unfold gn at a
               split at a
               · cases a
               · split at a
                 · cases a
                 · split at a
                   · cases a
                   · rename_i r hg
                     cases a
                     refine ⟨fun l hl=> ?_,h.2⟩
                     rcases List.mem_append.1 hl with hl | hl
                     · exact h.1 l hl
                     · obtain ⟨_,_,h2⟩:=tL _ _ _ hg l hl
                       exact CD h2
             · unfold eK at a
               split at a
               · cases a
               · split at a
                 · cases a
                 · split at a
                   · cases a
                   · split at a
                     · cases a
                     · split at a
                       · cases a
                       · rename_i r hg
                         cases a
                         refine ⟨h.1,fun q i=> ?_⟩
                         rcases List.mem_append.1 i with i | i
                         · exact h.2 q i
                         · obtain ⟨_,_,h2⟩:=tL _ _ _ hg q i
                           exact KD h.1 h2
theorem HU {eof ln:Nat} {F F':aH} {hs:List Tx} {rows rows':List Rw} {row:List Tx} (h0:row.getD 0 []∉cJ) (a:bz eof F hs rows ln row= .ok (F',rows')):F'.sp=F.sp:=by
 unfold bz at a
 rw [if_neg h0] at a
 unfold gQ jH jM g8 gI gn eK at a
 repeat' split at a
 all_goals first
  | (cases a; done)
  | (cases a; rfl)
theorem zN {eof ln:Nat} {F F':aH} {seen:List Tx} {rows rows':List Rw} {row:List Tx} (h:gB F seen) (i:bz eof F seen rows ln row= .ok (F',rows')):gB F' (seen++ [row.getD 0 []]):=by
 intro k hk j
 rw [List.mem_append,List.mem_singleton] at j
 have p:k∉seen:=fun h=>j (.inl h)
 have q:k≠row.getD 0 []:=fun h=>j (.inr h)
 by_cases h0:row.getD 0 []∈cJ
 · unfold bz at i
   rw [if_pos h0] at i
   unfold gK at i
   split at i
   · cases i
   · cases i
     show (F.sp.set (cJ.idxOf (row.getD 0 [])) _).getD (cJ.idxOf k) 0=0
     rw [List.getD_eq_getElem?_getD,List.getElem?_set,if_neg,← List.getD_eq_getElem?_getD]
     · exact h k hk p
     · intro he
       have hg:∀ a∈cJ,cJ.getD (cJ.idxOf a) []=a:=by decide
       have h1:=hg _ h0
       have h2:=hg _ hk
       rw [he] at h1
       exact q (h2.symm.trans h1)
 · rw [HU h0 i]; exact h k hk p
end Go.Hb.gU
end
section
set_option maxRecDepth 20000
set_option maxHeartbeats 1000000
namespace Go.Hb.jN
open Go.Hb.di
open Go.Proofs
open Go.Hb.eS Go.Hb.fE Go.Hb.iQ Go.Hb.fN Go.Hb.iw Go.Hb.kg Go.Hb.gA Go.Hb.lz Go.Hb.gW Go.Hb.kN Go.Hb.lx Go.Hb.gl Go.Hb.fQ
structure ka (w:World) (B fb:Nat) (mc:Nat) (F:aH) (V:dV):Prop where
 cells:w.heap[fb]? =some (.cells (kp F V mc).toArray 89 (0,0))
 o9:World.ownsRow w B 163 2 V.v9 F.bL.length (gS F.bL)
 dH:World.ownsRow w B 54 1 V.v10 F.aliases.length V.sa
 al:c4 w B 71 V.sa F.aliases
 dp:World.ownsRow w B 157 5 V.v11 F.aX.length (js F.aX)
 cM:World.ownsRow w B 155 7 V.cB F.rules.length (fU (F.rules.zip V.rn))
 nx:c4 w B 71 V.rn (F.rules.map (·.next))
 lo:B≤fb∧B≤mc
 ee:F.sp.length=5
theorem ka.md {G:Nat→Prop} {w w':World} {B fb mc:Nat} {F:aH} {V:dV} (h:ka w B fb mc F V) (hm:Md G w w') {L:List Nat} (hT:TF w L G) (a:(L.contains 91 || L.contains 165 || L.contains 56 || L.contains 73 || L.contains 159 || L.contains 157)=false):ka w' B fb mc F V:=by
 simp only [Bool.or_eq_false_iff] at a
 obtain ⟨⟨⟨⟨⟨h1,h2⟩,h3⟩,h4⟩,h5⟩,h6⟩:=a
 have hfl:∀ k,G k→∀ cur z,w.heap[k]?≠some (.cells cur 71 z):=fun k hk cur z hg=>hT.no (cR hg) h4 hk
 exact ⟨hm.gp hT h.cells h1,bE h.o9 hm hT h2,bE h.dH hm hT h3,h.al.md hm hfl,bE h.dp hm hT h5,bE h.cM hm hT h6,h.nx.md hm hfl,h.lo,h.ee⟩
theorem ka.wk {w w':World} {B fb mc:Nat} {F:aH} {V:dV} (h:ka w B fb mc F V) (hm:Wk w w'):ka w' B fb mc F V:=h.md (L:= []) hm (fun _ hk=>hk.elim) rfl
theorem Gu {w:World} {B fb mc:Nat} {F:aH} {V:dV} (h:cC w B fb mc F V):ka w B fb mc F V:=⟨h.cells,h.o9,h.dH,h.al,h.dp,h.cM,h.nx,h.lo,h.ee⟩
theorem ka.rZ {w w1 j:World} {B fb mc:Nat} {F:aH} {V:dV} {v:Value} {x:bV} {f:Value→Option Value} (h:ka w B fb mc F V) (hf:bN w.heap mc (k4 .u16) f) (s:∀ y:Nat,f (aM y)=((F.aX++ [x]).findIdx? fun c=>decide (c.flag=y)).map fun i:Nat=>Value.int .i64 i) (hm:Md (fun k=>V.v11.ownBlock=some k) w w1) (q:World.ownsRow w1 B 157 5 v (F.aX++ [x]).length (js (F.aX++ [x]))) (a:Md (fun k=>k=fb) w1 j) (hc:j.heap[fb]? =some (.cells (kp {F with aX:=F.aX++ [x]} {V with v11:=v} mc).toArray 89 (0,0))):cC j B fb mc {F with aX:=F.aX++ [x]} {V with v11:=v} :=by
 have hT:TF w [159] (fun k=>V.v11.ownBlock=some k):=TF.own h.dp (by decide)
 have hcl:=hm.gp hT h.cells (by decide)
 have hT2:TF w1 [91] (fun k=>k=fb):=TF.eq (cR hcl) (by decide)
 have hfl:∀ k,V.v11.ownBlock=some k→∀ cur z,w.heap[k]?≠some (.cells cur 71 z):=eN h.dp (by decide)
 have p:∀ k,k=fb→∀ cur z,w1.heap[k]?≠some (.cells cur 71 z):=dK hcl (by decide)
 have hmt:=dt (hf.md hm (hT.no (dt hf) (by decide)))
 exact ⟨hc,bE (bE h.o9 hm hT (by decide)) a hT2 (by decide),bE (bE h.dH hm hT (by decide)) a hT2 (by decide),(h.al.md hm hfl).md a p,bW q a (fun k hk hf=>cg q hcl (by decide) (hf ▸ hk)),bE (bE h.cM hm hT (by decide)) a hT2 (by decide),(h.nx.md hm hfl).md a p,⟨f,(hf.md hm (hT.no (dt hf) (by decide))).md a (hT2.no hmt (by decide)),s⟩,h.lo,h.ee⟩
theorem bS.Ji {w w1 i:World} {B:Nat} {H:bM} {F F':aH} {R:eF} {rows:List Rw} {ln:Nat} {seen:List Tx} {v:Value} {q:eH} (h:bS w B H F R rows ln seen) (hm:Md (fun k=>R.vn.ownBlock=some k) w w1) (j:World.ownsRow w1 B 3 1 v (F.rules++ [q]).length ((F.rules++ [q]).map fun r=>Value.int .i64 (r.line:Nat))) (a:Md (fun k=>k=H.rb) w1 i) (hc:i.heap[H.rb]? =some (.cells (oI H {R with vn:=v} ln).toArray 92 (0,0))) (hr:F'.rules=F.rules++ [q]) (hd:∀ x,dw F' x=dw F x):bS i B H F' {R with vn:=v} rows ln seen:=by
 have hT:TF w [5] (fun k=>R.vn.ownBlock=some k):=TF.own h.on (by decide)
 have hcl:=hm.gp hT h.cells (by decide)
 have hT2:TF w1 [94] (fun k=>k=H.rb):=TF.eq (cR hcl) (by decide)
 obtain ⟨f,hf,p⟩:=h.sm
 obtain ⟨g,hg,hg2⟩:=h.tm
 have hf1:=hf.md hm (hT.no (dt hf) (by decide))
 have hg1:=hg.md hm (hT.no (dt hg) (by decide))
 exact ⟨hc,(h.rws.md hm (eN h.on (by decide))).md a (dK hcl (by decide)),(h.rt.md hm (eN h.on (by decide))).md a (dK hcl (by decide)),⟨f,hf1.md a (hT2.no (dt hf1) (by decide)),p⟩,⟨g,hg1.md a (hT2.no (dt hg1) (by decide)),fun x s=>by rw [hd]; exact hg2 x s⟩,by rw [hr]; exact bW j a (fun k hk hf=>cg j hcl (by decide) (hf ▸ hk)),h.lo,h.ne⟩
theorem GC {cs:List bV} {x:Nat} (h:(dJ cs x).isSome=false):cs.findIdx? (fun c=>decide (c.flag=x))=none:=by
 rw [List.findIdx?_eq_none_iff]
 unfold dJ at h
 rw [Option.isSome_eq_false_iff,Option.isNone_iff_eq_none,List.find?_eq_none] at h
 intro c hc
 simpa using h c hc
theorem FQ {F:aH} {c:bV} (y:Nat):dw {F with aX:=F.aX++ [c]} y=(decide (y=c.flag) || dw F y):=by
 have h1:(dJ (F.aX++ [c]) y).isSome=((dJ F.aX y).isSome || decide (y=c.flag)):=by
  unfold dJ
  rw [List.find?_append,Option.isSome_or]
  congr 1
  by_cases h:c.flag=y
  · simp [h]
  · simp [h,Ne.symm h]
 unfold dw
 show (decide (y∈F.sp) || (dJ (F.aX++ [c]) y).isSome)=_
 rw [h1]
 cases decide (y∈F.sp) <;> cases (dJ F.aX y).isSome <;> cases decide (y=c.flag) <;> rfl
theorem E8 {F:aH} {c:bV} {f:Value→Option Value} (hd:dw F c.flag=false) (hf:∀ x:Nat,f (aM x)=(F.aX.findIdx? fun c=>decide (c.flag=x)).map fun i:Nat=>Value.int .i64 i) (y:Nat):bg f (aM c.flag) (.int .i64 (F.aX.length:Nat)) (aM y)=((F.aX++ [c]).findIdx? fun c=>decide (c.flag=y)).map fun i:Nat=>Value.int .i64 i:=by
 unfold dw at hd
 rw [Bool.or_eq_false_iff] at hd
 rw [List.findIdx?_append]
 by_cases h:y=c.flag
 · subst h
   rw [oF,GC hd.2]
   simp
 · rw [nv (fun h2=>h (BP h2)),hf y]
   cases F.aX.findIdx? fun c=>decide (c.flag=y) <;> simp [Ne.symm h]
theorem sJ {eof ln e:Nat} {F:aH} {rows:List Rw} {r:List Tx} (h:eC F (r.getD 1 [])= .error e):eK eof F rows ln r= .error (ln,e):=by unfold eK; rw [h]
theorem sK {eof ln x:Nat} {F:aH} {rows:List Rw} {r:List Tx} (h:eC F (r.getD 1 [])= .ok x) (h1:r.getD 2 []≠[89]) (h2:r.getD 2 []≠[78]):eK eof F rows ln r= .error (ln,114):=by unfold eK; rw [h]; exact if_pos ⟨h1,h2⟩
theorem xM {eof ln x e:Nat} {F:aH} {rows:List Rw} {r:List Tx} (h:eC F (r.getD 1 [])= .ok x) (h1:r.getD 2 []= [89]∨r.getD 2 []= [78]) (h2:dy (r.getD 3 []) 1024= .error e):eK eof F rows ln r= .error (ln,e):=by
 unfold eK; rw [h]; simp only; rw [if_neg (fun h3=>h1.elim h3.1 h3.2),h2]
theorem xN {eof ln x n:Nat} {F:aH} {rows:List Rw} {r:List Tx} (h:eC F (r.getD 1 [])= .ok x) (h1:r.getD 2 []= [89]∨r.getD 2 []= [78]) (h2:dy (r.getD 3 []) 1024= .ok n) (h3:1024 < F.rules.length+n):eK eof F rows ln r= .error (ln,117):=by
 unfold eK; rw [h]; simp only; rw [if_neg (fun h3=>h1.elim h3.1 h3.2),h2]; simp only; rw [if_pos h3]
theorem sL {eof ln x n:Nat} {F:aH} {rows:List Rw} {r:List Tx} {e:Nat×Nat} (h:eC F (r.getD 1 [])= .ok x) (h1:r.getD 2 []= [89]∨r.getD 2 []= [78]) (h2:dy (r.getD 3 []) 1024= .ok n) (h3:¬1024 < F.rules.length+n) (h4:group [r.getD 0 [],r.getD 1 []] (ew F.kind F.aliases (⟨x,(if r.getD 0 []=bO then 2 else 1:Nat),(decide (r.getD 2 []= [89])),F.rules.length,n⟩:bV)) eof n rows= .error e):eK eof F rows ln r= .error e:=by
 unfold eK; rw [h]; simp only; rw [if_neg (fun h3=>h1.elim h3.1 h3.2),h2]; simp only; rw [if_neg h3,h4]
theorem EE {eof ln x n:Nat} {F:aH} {rows:List Rw} {r:List Tx} {q:List eH×List Rw} (h:eC F (r.getD 1 [])= .ok x) (h1:r.getD 2 []= [89]∨r.getD 2 []= [78]) (h2:dy (r.getD 3 []) 1024= .ok n) (h3:¬1024 < F.rules.length+n) (h4:group [r.getD 0 [],r.getD 1 []] (ew F.kind F.aliases (⟨x,(if r.getD 0 []=bO then 2 else 1:Nat),(decide (r.getD 2 []= [89])),F.rules.length,n⟩:bV)) eof n rows= .ok q):eK eof F rows ln r= .ok ({F with aX:=F.aX++ [(⟨x,(if r.getD 0 []=bO then 2 else 1:Nat),(decide (r.getD 2 []= [89])),F.rules.length,n⟩:bV)],rules:=F.rules++q.1},q.2):=by
 unfold eK; rw [h]; simp only; rw [if_neg (fun h3=>h1.elim h3.1 h3.2),h2]; simp only; rw [if_neg h3,h4]
theorem xO (B:Nat) (H:bM) (F:aH) (rows:List Rw) (ln:Nat) (seen:List Tx) (r:List Tx) (bt:Nat) (I:Option Addr) (J:Nat) (w:World) (a:St w B H F rows ln seen) (hT:Tg w bt 9 r.length (.slice I r.length J) (r.map str)) (hr:r.length=4) (hrl:∀ x∈r,x.length≤70000) (dP:F.bL.length+F.aliases.length+F.aX.length+F.rules.length+rows.length < 70000):
 dN Tryz.prog 65 (List.toArray [.pointer (some ⟨H.rb,0,none⟩),.slice I r.length J]) w (fP B H seen (eK H.eof F rows ln r) w) (fO B H (eK H.eof F rows ln r) w):=by
 obtain ⟨V,R,hF,Y,hB⟩:=a
 have hTs:=hT.bH
 have hr1:(r.getD 1 []).length≤70000:=hrl _ (c6 (by omega))
 have d1:(r.getD 2 []).length≤70000:=hrl _ (c6 (by omega))
 have d2:(r.getD 3 []).length≤70000:=hrl _ (c6 (by omega))
 have hlo:=Y.lo
 have hbl:=hB.len
 have hrb0:=(Array.getElem?_eq_some_iff.1 Y.cells).1
 obtain ⟨cb,gq,dm⟩:=bU hF.cM
 obtain ⟨bu,gh,b6⟩:=bU hF.dp
 have cW:Hb.aC w.heap H.fb 12=some (.slice cb F.rules.length gq):=by rw [← dm]; exact (aO hF.cells).trans rfl
 have dW:Hb.aC w.heap H.fb 11=some (.slice bu F.aX.length gh):=by rw [← b6]; exact (aO hF.cells).trans rfl
 have c0:∀ b,w.heap.size≤b→¬(V.v11.ownBlock=some b):=fun b hb h=>by have :=c7 hF.dp h; omega
 obtain ⟨d6,dl,b4⟩:=Y.tm
 refine gr Tryz.func65 rfl Tryz.ntmps65 rfl ?_
 refine cX (fun aZ bs=> ∃ (x E:Nat),(eC F (r.getD 1 [])= .ok x)∧(x≠0)∧(dw F x=false)∧(w.heap.size≤E)∧(bs.heap[E]? =some (.cells [aM x,.int .i64 (1:Nat),.bool false,.int .i64 (F.rules.length:Nat),.int .i64 (0:Nat)].toArray 157 (0,0)))∧(Wk w bs)∧(aZ 0= .pointer (some ⟨H.rb,0,none⟩))∧(aZ 1= .slice I r.length J)∧(aZ 4= .pointer (some ⟨E,0,none⟩))) ?_ ?_
 have hS0:(fun w'=>Wk w w') w.drew:=(Md.refl _ _).drew
 refine bC (fun w'=>Wk w w') rfl wide hS0 (hp 0 rfl (by kernel_rfl) (fun _ _=>aB (.pointer (some ⟨H.rb,0,none⟩)) rfl) hS0 (hp 1 rfl (by kernel_rfl) (fun _ _=>aB (.slice I r.length J) rfl) hS0 (hp 2 rfl (by kernel_rfl) (fun _ _=>aJ bA rfl rfl (by omega) (ak.ok (hTs.2) (bl (by omega)))) hS0 (hp 3 rfl (by kernel_rfl) (fun w' a=>ld bw rfl (Wk.aC a (bh.get (i:=1) hTs.2 (by omega)))) hS0 (hp 5 rfl (by kernel_rfl) (fun _ _=>aB (.pointer (some ⟨H.rb,0,none⟩)) rfl) hS0 (hp 6 rfl (by kernel_rfl) (fun _ _=>nc rfl) hS0 (hp 7 rfl (by kernel_rfl) (fun _ _=>fa eL rfl) hS0 ?_)))))))
 refine hp 8 rfl (by kernel_rfl) (fun w' a=>ld eo rfl (Wk.aC a ((aO Y.cells).trans rfl))) hS0 (hp 9 rfl (by kernel_rfl) (fun _ _=>nc rfl) hS0 (hp 10 rfl (by kernel_rfl) (fun _ _=>fa et rfl) hS0 (hp 11 rfl (by kernel_rfl) (fun _ _=>fa k0 rfl) hS0 (hp 12 rfl (by kernel_rfl) (fun w' a=>ld mo rfl (Wk.aC a (cW))) hS0 (hp 13 rfl (by kernel_rfl) (fun _ _=>ba rE rfl rfl) hS0 (HQ (Pn:=fun c w'=> ∃ e,eC F (r.getD 1 [])= .error e∧c=fJ 25 ln (e:Nat)∧Wk w.drew w') 4 15 rfl rfl (by kernel_rfl) rfl rfl ?_ (fun c w' s ao hF=>by obtain ⟨e,he,h,h2⟩:=s; exact ⟨ln,e,sJ he,h,Wk.mw (Md.trans hS0 h2)⟩) ?_))))))
 refine (cj sF (tE B H F V R rows ln seen (r.getD 1 []) w.drew (hF.wk hS0) (Y.wk hS0) hB.kd (by omega)) rfl fun v10 w10 hR10=> ?_)
 obtain ⟨x,O,hx0,rfl,an,aR⟩:=hR10
 have Z:(fun w'=>Wk w w') w10:=Md.trans hS0 aR
 refine ⟨Z,?_⟩
 refine hp 14 rfl (by kernel_rfl) (fun _ _=>bY (ps:= [(0,aM x),(1,.int .i64 (1:Nat)),(3,.int .i64 (F.rules.length:Nat))]) (L:= [aM x,.int .i64 (1:Nat),.bool false,.int .i64 (F.rules.length:Nat),.int .i64 0]) uZ rfl (rfl)) Z (he 15 rfl (by kernel_rfl) (fH oX fun E w4 cT bb a2=> ?_))
 have ae:(fun w'=>Wk w w') w4:=Md.trans Z bb.md
 refine ⟨ae,?_⟩
 refine he 16 rfl (by kernel_rfl) (fV m7 rfl rfl rfl rfl a2 (by decide) fun w5 a7 a3=> ?_)
 have aI:(fun w'=>Wk w w') w5:=Md.trans' ae a7 (fun k hk h=>by have h1:=Md.size Z; have h2:=Md.size hS0; omega)
 refine ⟨aI,?_⟩
 exact hn (by kernel_rfl) (tn (⟨x,E,O,hx0,an,((by have h1:=Md.size Z; have h2:=Md.size hS0; omega)),a3,aI,rfl,rfl,rfl⟩))
 refine (fH oX fun E w4 cT bb a2=> ?_)
 have ae:(fun w'=>Wk w w') w4:=Md.trans hS0 bb.md
 refine ⟨ae,?_⟩
 refine nk 4 rfl (by kernel_rfl) rfl (cj sF (tE B H F V R rows ln seen (r.getD 1 []) w4 (hF.wk ae) (Y.wk ae) hB.kd (by omega)) rfl fun v10 w10 hR10=> ?_) (fun c w' s ao hF=>by obtain ⟨e,he,h,h2⟩:=s; exact ⟨ln,e,sJ he,h,Wk.mw (Md.trans ae h2)⟩)
 obtain ⟨x,O,hx0,rfl,an,aR⟩:=hR10
 have Z:(fun w'=>Wk w w') w10:=Md.trans ae aR
 refine ⟨Z,?_⟩
 refine hp 14 rfl (by kernel_rfl) (fun _ _=>bY (ps:= [(0,aM x),(1,.int .i64 (1:Nat)),(3,.int .i64 (F.rules.length:Nat))]) (L:= [aM x,.int .i64 (1:Nat),.bool false,.int .i64 (F.rules.length:Nat),.int .i64 0]) uZ rfl (rfl)) Z (he 16 rfl (by kernel_rfl) (fV m7 rfl rfl rfl rfl (Wk.az aR a2) (by decide) fun w5 a7 a3=> ?_))
 have aI:(fun w'=>Wk w w') w5:=Md.trans' Z a7 (fun k hk h=>by have h1:=Md.size Z; have h2:=Md.size hS0; omega)
 refine ⟨aI,?_⟩
 exact hn (by kernel_rfl) (tn (⟨x,E,O,hx0,an,((by have h1:=Md.size Z; have h2:=Md.size hS0; omega)),a3,aI,rfl,rfl,rfl⟩))
 rintro aZ bs ⟨x,E,O,hx0,an,hq4,hq1,aP,c4,c8,c9⟩
 refine fx 0 c4 (fx 1 c8 (fx 4 c9 ?_))
 refine cX (fun a0 aw=>(aw.heap[E]? =some (.cells [aM x,.int .i64 ((if r.getD 0 []=bO then 2 else 1:Nat):Nat),.bool false,.int .i64 (F.rules.length:Nat),.int .i64 (0:Nat)].toArray 157 (0,0)))∧(Wk w aw)∧(a0 0= .pointer (some ⟨H.rb,0,none⟩))∧(a0 1= .slice I r.length J)∧(a0 4= .pointer (some ⟨E,0,none⟩))) ?_ ?_
 refine sq (fun b9 a6=>rg rfl (p (aB (.slice I r.length J) rfl) (p (aJ bA rfl rfl (by omega) (ak.ok (ak.wk hTs.2 aP) (bl (by omega)))) (p (ld bw rfl (bh.get (i:=0) (ak.wk hTs.2 aP) (by omega))) (p (cG rfl rfl) (nl (tn (a6 _ _ ?_))))))))
 refine cd rfl (fun bj=> ?_) (fun bj=> ?_)
 exact rg rfl (p (fa qs rfl) (e (ca fW rfl rfl (v:= .int .i64 (2:Nat)) rfl hq1 (by show _ < 5; decide) fun w6 cA hB6=>nl (tn (⟨((by rw [if_pos (show r.getD 0 []=bO from bj)]; exact hB6)),((aP.trans' cA (fun k hk h=>by omega))),rfl,rfl,rfl⟩)))))
 exact au (tn (⟨((by rw [if_neg (show ¬r.getD 0 []=bO from bj)]; exact hq1)),aP,rfl,rfl,rfl⟩))
 rintro a0 aw ⟨hq3,U,da,db,dc⟩
 refine fx 0 da (fx 1 db (fx 4 dc ?_))
 refine cX (fun a1 b8=>(r.getD 2 []= [89]∨r.getD 2 []= [78])∧(b8=aw)∧(a1 0= .pointer (some ⟨H.rb,0,none⟩))∧(a1 1= .slice I r.length J)∧(a1 4= .pointer (some ⟨E,0,none⟩))) ?_ ?_
 refine rg rfl (p (aB (.pointer (some ⟨H.rb,0,none⟩)) rfl) (p (aB (.slice I r.length J) rfl) (p (aJ bA rfl rfl (by omega) (ak.ok (ak.wk hTs.2 U) (bl (by omega)))) (p (ld bw rfl (bh.get (i:=2) (ak.wk hTs.2 U) (by omega))) (p (cG rfl rfl) (p mv (gs (t:=31) rfl (fun aU=> ?_) (fun aU=> ?_))))))))
 refine sk rfl rfl rfl rfl (sk rfl rfl rfl rfl (sk rfl rfl rfl rfl (sk rfl rfl rfl rfl (p (bf rfl) (eP rfl (cj eT (e4 H.rb ln _ 114 aw (Wk.aC U Y.bK) (by decide)) rfl fun ds w37 bc=> ?_) (fun c w' s ao hF=>by first | exact absurd s.2.1 (by decide) | exact ⟨ln,114,sK O aU (of_decide_eq_false s.2.1),s.1,by rw [s.2.2]; exact Wk.mw U⟩))))))
 obtain ⟨rfl,b7,rfl⟩:=bc
 exact nl (tn (⟨(.inl aU),rfl,rfl,rfl,rfl⟩))
 refine pg rfl rfl rfl (aB (.slice I r.length J) rfl) (pg rfl rfl rfl (aJ bA rfl rfl (by omega) (ak.ok (ak.wk hTs.2 U) (bl (by omega)))) (pg rfl rfl rfl (ld bw rfl (bh.get (i:=2) (ak.wk hTs.2 U) (by omega))) (pg rfl rfl rfl (cG rfl rfl) (p (a4 rfl) (eP rfl (cj eT (e4 H.rb ln _ 114 aw (Wk.aC U Y.bK) (by decide)) rfl fun ds w37 bc=> ?_) (fun c w' s ao hF=>by first | exact absurd s.2.1 (by decide) | exact ⟨ln,114,sK O aU (of_decide_eq_false s.2.1),s.1,by rw [s.2.2]; exact Wk.mw U⟩))))))
 obtain ⟨rfl,b7,rfl⟩:=bc
 exact nl (tn (⟨(.inr (of_decide_eq_true b7)),rfl,rfl,rfl,rfl⟩))
 rintro a1 b8 ⟨ar,dn,dd,de,df⟩
 refine fx 0 dd (fx 1 de (fx 4 df ?_))
 subst dn
 refine sq (fun b9 a6=>rg rfl (p (aB (.slice I r.length J) rfl) (p (aJ bA rfl rfl (by omega) (ak.ok (ak.wk hTs.2 U) (bl (by omega)))) (p (ld bw rfl (bh.get (i:=2) (ak.wk hTs.2 U) (by omega))) (p (cG rfl rfl) (p (fa y9 rfl) (e (ca x3 rfl rfl (v:= .bool (decide (r.getD 2 []= [89]))) rfl hq3 (by show _ < 5; decide) fun w7 cE cl=> ?_))))))))
 have hE4:=U.trans' cE (fun k hk h=>by omega)
 refine nl (tn (a6 _ _ (sq (fun dz cs=>rg rfl (p (aB (.pointer (some ⟨H.rb,0,none⟩)) rfl) (p (aB (.slice I r.length J) rfl) (p (aJ bA rfl rfl (by omega) (ak.ok (ak.wk hTs.2 hE4) (bl (by omega)))) (p (ld bw rfl (bh.get (i:=3) (ak.wk hTs.2 hE4) (by omega))) ?_))))))))
 refine eP rfl (cj pQ (qZ H.rb ln (r.getD 3 []) 1024 w7 (Wk.aC hE4 Y.bK) (by omega) (by omega)) rfl fun d9 ec cP=> ?_) (fun c w' s ao hF=>by obtain ⟨e,he,h,h2⟩:=s; exact ⟨ln,e,xM O ar he,h,Wk.mw (hE4.trans h2)⟩)
 obtain ⟨n,hnx,rfl,hE47⟩:=cP
 have hnl:=uk hnx
 refine p (fa tx rfl) (e (ca fW rfl rfl (v:= .int .i64 (n:Nat)) rfl (Wk.az hE47 cl) (by show _ < 5; decide) fun w8 cH cn=> ?_))
 have hE5:=(hE4.trans hE47).trans' cH (fun k hk h=>by omega)
 have hb8:w8.heap[E]? =some (.cells [aM x,.int .i64 ((if r.getD 0 []=bO then 2 else 1:Nat):Nat),.bool (decide (r.getD 2 []= [89])),.int .i64 (F.rules.length:Nat),.int .i64 (n:Nat)].toArray 157 (0,0)):=cn
 refine nl (tn (cs _ _ (sq (fun dA ct=>rg rfl (p (aB (.pointer (some ⟨H.rb,0,none⟩)) rfl) (p (fa GZ rfl) (p (ld bQ rfl ((aO hb8).trans rfl)) (p (fa tx rfl) ?_))))))))
 refine p (ld bQ rfl ((aO hb8).trans rfl)) (p (a9 ((F.rules.length+n:Nat):Int) rfl rfl (aQ (by omega) (by omega))) (p (le rfl rfl) (eP rfl (cj eT (e4 H.rb ln _ 117 w8 (Wk.aC hE5 Y.bK) (by decide)) rfl fun eb w56 cS=> ?_) (fun c w' s ao hF=>⟨ln,117,xN O ar hnx (by have :=of_decide_eq_false s.2.1; omega),s.1,by rw [s.2.2]; exact Wk.mw hE5⟩))))
 obtain ⟨rfl,dq,rfl⟩:=cS
 have aN:¬1024 < F.rules.length+n:=by have :=of_decide_eq_true dq; omega
 have hR5:=Y.wk hE5
 have hF5:=hF.wk hE5
 have ht5:=dl.wk hE5
 refine nl (tn (ct _ _ (sq (fun dB cu=> ?_))))
 have aa:(fun w'=>Wk w56 w') w56.drew:=(Md.refl _ _).drew
 refine dG (fun w'=>Wk w56 w') 8 rfl wide aa (lq 0 rfl (by kernel_rfl) (fun _ _=>aB (.pointer (some ⟨H.rb,0,none⟩)) rfl) aa (lq 1 rfl (by kernel_rfl) (fun _ _=>nc rfl) aa (lq 2 rfl (by kernel_rfl) (fun _ _=>fa tB rfl) aa (lq 3 rfl (by kernel_rfl) (fun w' a=>ld nU rfl (Wk.aC a ((aO hR5.cells).trans rfl))) aa (lq 4 rfl (by kernel_rfl) (fun _ _=>fa tw rfl) aa (lq 5 rfl (by kernel_rfl) (fun w' a=>ld bJ rfl (Wk.aC a ((aO hb8).trans rfl))) aa (lq 6 rfl (by kernel_rfl) (fun w' a=>j0 dY kJ mG (bN.md (ht5) a id) rfl rfl (⟨_,rfl⟩) (show _=Value.int .i64 0 from (b4 x hx0).trans (by rw [an]; rfl))) aa ?_)))))))
 refine lq 7 rfl (by kernel_rfl) (fun _ _=>a9 ((1:Nat):Int) rfl rfl (aQ (by omega) (by omega))) aa (cD 8 rfl (by kernel_rfl) (by kernel_rfl) (nH dY mG (ht5.wk aa) rfl rfl rfl (⟨_,rfl⟩) fun ax cF cK=> ?_))
 have hM7x:=e6 cF
 have hR7:bS ax B H {F with aX:=F.aX++ [(⟨x,(if r.getD 0 []=bO then 2 else 1:Nat),(decide (r.getD 2 []= [89])),F.rules.length,n⟩:bV)]} R rows ln seen:=hR5.oz hM7x cK rfl (BI an b4 (fun y _=>FQ y))
 have hF7:=hF5.oz hR5 hM7x
 have hb9:=hM7x.az hb8 (fun h=>ht5.k6 (h ▸ hb8))
 have hT7:=(hT.wk hE5).md hM7x (fun k hk cur z hg=>by subst hk; exact ht5.k6 hg)
 have hMw7:=(Wk.mw hE5).trans (dM.mt hR5 hM7x)
 obtain ⟨cf,bk,cY⟩:=hF7.cm
 have cV:Hb.aC ax.heap H.fb 11=some (.slice bu F.aX.length gh):=by rw [← b6]; exact (aO hF7.cells).trans rfl
 refine dF (by kernel_rfl) ?_
 refine tn (cu _ _ (sq (fun dC cv=> ?_)))
 have A:(fun w'=>Wk ax w') ax.drew:=(Md.refl _ _).drew
 refine dG (fun w'=>Wk ax w') 18 rfl wide A (lq 0 rfl (by kernel_rfl) (fun _ _=>aB (.pointer (some ⟨H.rb,0,none⟩)) rfl) A (lq 1 rfl (by kernel_rfl) (fun _ _=>nc rfl) A (lq 2 rfl (by kernel_rfl) (fun _ _=>fa eL rfl) A (lq 3 rfl (by kernel_rfl) (fun w' a=>ld eo rfl (Wk.aC a ((aO hR7.cells).trans rfl))) A (lq 4 rfl (by kernel_rfl) (fun _ _=>nc rfl) A (lq 5 rfl (by kernel_rfl) (fun _ _=>fa zb rfl) A (lq 6 rfl (by kernel_rfl) (fun w' a=>ld nU rfl (Wk.aC a ((aO hF7.cells).trans rfl))) A ?_)))))))
 refine lq 7 rfl (by kernel_rfl) (fun _ _=>fa tw rfl) A (lq 8 rfl (by kernel_rfl) (fun w' a=>ld bJ rfl (Wk.aC a ((aO hb9).trans rfl))) A (lq 9 rfl (by kernel_rfl) (fun _ _=>aB (.pointer (some ⟨H.rb,0,none⟩)) rfl) A (lq 10 rfl (by kernel_rfl) (fun _ _=>nc rfl) A (lq 11 rfl (by kernel_rfl) (fun _ _=>fa eL rfl) A (lq 12 rfl (by kernel_rfl) (fun w' a=>ld eo rfl (Wk.aC a ((aO hR7.cells).trans rfl))) A (lq 13 rfl (by kernel_rfl) (fun _ _=>nc rfl) A (lq 14 rfl (by kernel_rfl) (fun _ _=>fa et rfl) A ?_)))))))
 refine lq 15 rfl (by kernel_rfl) (fun _ _=>fa ni rfl) A (lq 16 rfl (by kernel_rfl) (fun w' a=>ld pq rfl (Wk.aC a (cV))) A (lq 17 rfl (by kernel_rfl) (fun _ _=>ba BS rfl rfl) A (cD 18 rfl (by kernel_rfl) (by kernel_rfl) (nH dY mG (bk.wk A) rfl rfl rfl (⟨_,rfl⟩) fun ay cI cL=> ?_))))
 have cN:bN ay.heap H.mc (k4 .u16) (bg cf (aM x) (.int .i64 (F.aX.length:Nat))):=cL
 have hM8x:=e6 cI
 have bi:TF ax [1] (fun k=>k=H.mc):=TF.eq (dt bk) (by decide)
 have hX8:=(Gu hF7).md (L:= [1]) hM8x bi (by decide)
 have hR8:=hR7.md (L:= [1]) hM8x bi (by decide) hR7.ne.2.1 hR7.ne.2.2
 have hb10:=hM8x.gp bi hb9 (by decide)
 have hT8x:=hT7.md hM8x (fun k hk cur z hg=>by subst hk; exact bk.k6 hg)
 have hMw8:=hMw7.trans (hM8x.mono (fun k _ hk=>⟨hk ▸ hF7.lo.2,.inr (.inr (.inl hk))⟩))
 have hn4:=c0 E hq4
 have aL:¬(V.v11.ownBlock=some H.rb):=cg hX8.dp hR8.cells (by decide)
 have bm:¬(V.v11.ownBlock=some H.fb):=cg hX8.dp hX8.cells (by decide)
 refine dF (by kernel_rfl) ?_
 refine tn (cv _ _ (sq (fun dD cw=> ?_)))
 have M:(fun w'=>Md (fun k=>V.v11.ownBlock=some k) ay w') ay.drew:=(Md.refl _ _).drew
 refine dG (fun w'=>Md (fun k=>V.v11.ownBlock=some k) ay w') 18 rfl wide M (bT 0 rfl (by kernel_rfl) (fun _=>aB (.pointer (some ⟨H.rb,0,none⟩)) rfl) (fun _=>M) (bT 1 rfl (by kernel_rfl) (fun _=>nc rfl) (fun _=>M) (bT 2 rfl (by kernel_rfl) (fun _=>fa eL rfl) (fun _=>M) (gG 3 rfl (by kernel_rfl) (fun w' a=>ld eo rfl (Md.aC a ((aO hR8.cells).trans rfl) aL)) M (bT 4 rfl (by kernel_rfl) (fun _=>aB (.pointer (some ⟨H.rb,0,none⟩)) rfl) (fun _=>M) (bT 5 rfl (by kernel_rfl) (fun _=>nc rfl) (fun _=>M) (bT 6 rfl (by kernel_rfl) (fun _=>fa eL rfl) (fun _=>M) ?_)))))))
 refine gG 7 rfl (by kernel_rfl) (fun w' a=>ld eo rfl (Md.aC a ((aO hR8.cells).trans rfl) aL)) M (bT 8 rfl (by kernel_rfl) (fun _=>nc rfl) (fun _=>M) (bT 9 rfl (by kernel_rfl) (fun _=>fa et rfl) (fun _=>M) (bT 10 rfl (by kernel_rfl) (fun _=>fa ni rfl) (fun _=>M) (gG 11 rfl (by kernel_rfl) (fun w' a=>ld pq rfl (Md.aC a ((aO hX8.cells).trans rfl) bm)) M (gG 12 rfl (by kernel_rfl) (fun w' a=>dx nQ rfl (rfl) (fun j hj=>bD.c5 ⟨_,Md.az a hb10 hn4⟩ j)) M (fA 13 rfl (by kernel_rfl) (ib rp rfl rfl rfl fun dO w96 dS bB co=> ?_)))))))
 have hE96:=e6 bB.md
 have hX9:=hX8.wk hE96
 have hR9:=hR8.wk hE96
 have hsz9:=(Array.getElem?_eq_some_iff.1 hR9.cells).1
 have bR:(fun w'=>Md (fun k=>V.v11.ownBlock=some k) ay w') w96:=M.trans' bB.md (fun _ _ h=>h.elim)
 refine ⟨bR,?_⟩
 refine fA 14 rfl (by kernel_rfl) (ap rp (hX9.dp) rfl (by omega) rfl (ak.cQ co) (rfl) (rfl) (by omega) (by omega) fun br w97 b2 am d5 d0=> ?_)
 have hMw9:=(hMw8.trans (Wk.mw hE96)).trans (Mw.of am (TF.own hX9.dp (by decide)) (fun k hk=>(c7 hX9.dp hk).1))
 have hR10:=bS.own hR9 hX9.dp am (by decide)
 have hc10:=am.az hX9.cells (cg hX9.dp hX9.cells (by decide))
 have hb11:=am.az (Wk.az hE96 hb10) hn4
 have hT10:=(hT8x.wk hE96).md am (eN hX9.dp (by decide))
 have c3:World.ownsRow w97 B 157 5 br (F.aX++ [(⟨x,(if r.getD 0 []=bO then 2 else 1:Nat),(decide (r.getD 2 []= [89])),F.rules.length,n⟩:bV)]).length (js (F.aX++ [(⟨x,(if r.getD 0 []=bO then 2 else 1:Nat),(decide (r.getD 2 []= [89])),F.rules.length,n⟩:bV)])):=by rw [show js (F.aX++ [(⟨x,(if r.getD 0 []=bO then 2 else 1:Nat),(decide (r.getD 2 []= [89])),F.rules.length,n⟩:bV)])=js F.aX++kT (⟨x,(if r.getD 0 []=bO then 2 else 1:Nat),(decide (r.getD 2 []= [89])),F.rules.length,n⟩:bV) from by simp [js],List.length_append]; exact b2
 have aT:(fun w'=>Md (fun k=>V.v11.ownBlock=some k) ay w') w97:=bR.trans' am (fun _ _ h=>h)
 refine ⟨aT,?_⟩
 refine bT 15 rfl (by kernel_rfl) (fun _=>nc rfl) (fun _=>aT) (bT 16 rfl (by kernel_rfl) (fun _=>fa et rfl) (fun _=>aT) (bT 17 rfl (by kernel_rfl) (fun _=>fa ni rfl) (fun _=>aT) (cD 18 rfl (by kernel_rfl) (by kernel_rfl) (ca x9 rfl rfl (v:=br) (dT b2) hc10 (by show _ < 14; omega) fun w9 hM9 a5=> ?_))))
 have hF11:=ka.rZ (x:=(⟨x,(if r.getD 0 []=bO then 2 else 1:Nat),(decide (r.getD 2 []= [89])),F.rules.length,n⟩:bV)) hX9 (cN.wk hE96) (E8 (c:=(⟨x,(if r.getD 0 []=bO then 2 else 1:Nat),(decide (r.getD 2 []= [89])),F.rules.length,n⟩:bV)) an cY) am c3 hM9 a5
 have hR11:=bS.ko hR10 hc10 hM9
 have hb12:=hM9.az hb11 (fun h=>by rw [h,hc10] at hb11; cases hb11)
 have hT11:=hT10.md hM9 (dK hc10 (by decide))
 have hMw10:=hMw9.trans (Mw.of hM9 (TF.eq (cR hc10) (by decide)) (fun k hk=>hk ▸ hX9.lo.1))
 refine dF (by kernel_rfl) ?_
 refine tn (cw _ _ (sq (fun dE cx=>rg rfl (p (fa tx rfl) (p (ld bQ rfl ((aO hb12).trans rfl)) (p mv (nl (tn (cx _ _ ?_)))))))))
 refine az (lp (fun bv aA wI=> ∃ (i:Nat) (xs:List eH) (rows':List Rw) (aV:Nat) (C:dV) (R':eF),(i≤n)∧(fu [r.getD 0 [],r.getD 1 []] (ew F.kind F.aliases (⟨x,(if r.getD 0 []=bO then 2 else 1:Nat),(decide (r.getD 2 []= [89])),F.rules.length,n⟩:bV)) H.eof (group [r.getD 0 [],r.getD 1 []] (ew F.kind F.aliases (⟨x,(if r.getD 0 []=bO then 2 else 1:Nat),(decide (r.getD 2 []= [89])),F.rules.length,n⟩:bV)) H.eof n rows) xs (n - i) rows')∧(xs.length=i)∧(cC wI B H.fb H.mc {F with aX:=F.aX++ [(⟨x,(if r.getD 0 []=bO then 2 else 1:Nat),(decide (r.getD 2 []= [89])),F.rules.length,n⟩:bV)],rules:=F.rules++xs} C)∧(bS wI B H {F with aX:=F.aX++ [(⟨x,(if r.getD 0 []=bO then 2 else 1:Nat),(decide (r.getD 2 []= [89])),F.rules.length,n⟩:bV)],rules:=F.rules++xs} R' rows' aV seen)∧(hZ {F with aX:=F.aX++ [(⟨x,(if r.getD 0 []=bO then 2 else 1:Nat),(decide (r.getD 2 []= [89])),F.rules.length,n⟩:bV)],rules:=F.rules++xs} rows' seen)∧(dM B H w wI)∧(wI.heap[E]? =some (.cells [aM x,.int .i64 ((if r.getD 0 []=bO then 2 else 1:Nat):Nat),.bool (decide (r.getD 2 []= [89])),.int .i64 (F.rules.length:Nat),.int .i64 (n:Nat)].toArray 157 (0,0)))∧(Tg wI bt 9 r.length (.slice I r.length J) (r.map str))∧(aA 0= .pointer (some ⟨H.rb,0,none⟩))∧(aA 1= .slice I r.length J)∧(aA 4= .pointer (some ⟨E,0,none⟩))∧(aA 102= .int .i64 (n:Nat))∧(aA 103= .int .i64 (i:Nat))∧(n - i=bv)) _ ⟨0,[],rows,ln,{V with v11:=br},R,(by omega),fu.start,rfl,((by rw [List.append_nil]; exact hF11)),((by rw [List.append_nil]; exact hR11)),(⟨by simp only [List.length_append,List.length_singleton,List.length_nil]; omega,hB.sl,hB.row,hB.kd,hB.al⟩),hMw10,hb12,hT11,rfl,rfl,rfl,rfl,rfl,rfl⟩ ?_)
 rintro bv aA wI ⟨i,xs,rows',aV,C,R',hi,aq,hxl,bx,ab,aF,hMw,b3,aK,dg,dh,dk,di,dj,rfl⟩
 refine fx 0 dg (fx 1 dh (fx 4 dk (fx 102 di (fx 103 dj (sq (fun dH cy=>rg rfl (p (lt rfl rfl) (nl (tn (cy _ _ (sq (fun dI cz=>cd rfl (fun cU=> ?_) (fun cU=> ?_)))))))))))))
 refine au (tn (cz _ _ (sq (fun du cp=>az (sq (fun dv cq=> ?_))))))
 have ac:(fun w'=>Md (fun k=>k=H.rb) wI w') wI.drew:=(Md.refl _ _).drew
 refine bC (fun w'=>Md (fun k=>k=H.rb) wI w') rfl wide ac (hp 0 rfl (by kernel_rfl) (fun _ _=>aB (.pointer (some ⟨H.rb,0,none⟩)) rfl) ac (hp 1 rfl (by kernel_rfl) (fun _ _=>aB (.slice I r.length J) rfl) ac (hp 2 rfl (by kernel_rfl) (fun _ _=>aJ bA rfl rfl (by omega) (ak.ok (aK.bH.2) (bl (by omega)))) ac (hp 3 rfl (by kernel_rfl) (fun w' a=>ld bw rfl (bh.get (i:=0) (aK.md a (dK ab.cells (by decide))).bH.2 (by omega))) ac (hp 4 rfl (by kernel_rfl) (fun _ _=>aB (.slice I r.length J) rfl) ac (hp 5 rfl (by kernel_rfl) (fun _ _=>aJ bA rfl rfl (by omega) (ak.ok (aK.bH.2) (bl (by omega)))) ac (hp 6 rfl (by kernel_rfl) (fun w' a=>ld bw rfl (bh.get (i:=1) (aK.md a (dK ab.cells (by decide))).bH.2 (by omega))) ac ?_)))))))
 refine he 7 rfl (by kernel_rfl) (m4 (L:= [str (r.getD 0 []),str (r.getD 1 [])]) dU rfl rfl rfl rfl fun ce w14 hb14 bz ci=> ?_)
 have hE14:Wk wI w14:=e6 bz.md
 have hMw14:=hMw.trans (Wk.mw hE14)
 have bE:(fun w'=>Md (fun k=>k=H.rb) wI w') w14:=ac.trans' bz.md (fun _ _ h=>h.elim)
 refine ⟨bE,?_⟩
 refine nk 8 rfl (by kernel_rfl) rfl (cj sG (tS B H {F with aX:=F.aX++ [(⟨x,(if r.getD 0 []=bO then 2 else 1:Nat),(decide (r.getD 2 []= [89])),F.rules.length,n⟩:bV)],rules:=F.rules++xs} R' rows' aV seen [r.getD 0 [],r.getD 1 []] ce 2 _ _ w14 (ab.wk hE14) (Tg.uq ci rfl) rfl (by decide) (fun q bo=>(aF.row q bo).2.1)) rfl fun d8 w15 hR15=> ?_) (fun c w' s ao hF=>by
  obtain ⟨h1,h2⟩:=s
  have hm:=hMw14.trans (dM.rb (ab.wk hE14) h2)
  rcases h1 with ⟨rfl,h3⟩ | ⟨aW,av,rest,rfl,h4,h3⟩
  exact ⟨_,_,sL O ar hnx aN (aq.ends (by omega)),h3,hm⟩
  exact ⟨_,_,sL O ar hnx aN (aq.other (by omega) h4),h3,hm⟩)
 obtain ⟨aW,av,rest,rfl,b5,⟨ag,hR2⟩,hT15,hM15⟩:=hR15
 obtain ⟨cc,pG,rfl⟩:=hT15.slice
 have hF2:=(bx.wk hE14).rb (ab.wk hE14) hM15
 have hMw2:=hMw14.trans (dM.rb (ab.wk hE14) hM15)
 have hrow:av≠[]∧av.length≤70000∧∀ x∈av,x.length≤70000:=aF.row (aW,av) (by simp)
 have hB2:=hZ.kV aF
 have hbl2:=aF.len
 simp only [List.length_cons,List.length_append] at hbl2
 have hT2:=(aK.wk hE14).md hM15 (dK (ab.wk hE14).cells (by decide))
 have hb2:=hM15.az (Wk.az hE14 b3) (fun h=>by have h1:=(ab.wk hE14).cells; rw [← h,Wk.az hE14 b3] at h1; cases h1)
 have bF:(fun w'=>Md (fun k=>k=H.rb) wI w') w15:=bE.trans' hM15 (fun _ _ h=>h)
 refine ⟨bF,?_⟩
 refine hp 9 rfl (by kernel_rfl) (fun _ _=>aj) bF (hn (by kernel_rfl) (tn (cq _ _ (sq (fun dy cr=> ?_)))))
 have aL:¬(C.cB.ownBlock=some H.rb):=cg hF2.cM hR2.cells (by decide)
 have bm:¬(C.cB.ownBlock=some H.fb):=cg hF2.cM hF2.cells (by decide)
 have cZ:¬(C.cB.ownBlock=some E):=cg hF2.cM hb2 (by decide)
 have G:(fun w'=>Md (fun k=>C.cB.ownBlock=some k) w15 w') w15.drew:=(Md.refl _ _).drew
 refine dG (fun w'=>Md (fun k=>C.cB.ownBlock=some k) w15 w') 21 rfl wide G (bT 0 rfl (by kernel_rfl) (fun _=>aB (.pointer (some ⟨H.rb,0,none⟩)) rfl) (fun _=>G) (bT 1 rfl (by kernel_rfl) (fun _=>nc rfl) (fun _=>G) (bT 2 rfl (by kernel_rfl) (fun _=>fa eL rfl) (fun _=>G) (gG 3 rfl (by kernel_rfl) (fun w' a=>ld eo rfl (Md.aC a ((aO hR2.cells).trans rfl) aL)) G (bT 4 rfl (by kernel_rfl) (fun _=>aB (.pointer (some ⟨H.rb,0,none⟩)) rfl) (fun _=>G) (bT 5 rfl (by kernel_rfl) (fun _=>nc rfl) (fun _=>G) (bT 6 rfl (by kernel_rfl) (fun _=>fa eL rfl) (fun _=>G) ?_)))))))
 refine gG 7 rfl (by kernel_rfl) (fun w' a=>ld eo rfl (Md.aC a ((aO hR2.cells).trans rfl) aL)) G (bT 8 rfl (by kernel_rfl) (fun _=>nc rfl) (fun _=>G) (bT 9 rfl (by kernel_rfl) (fun _=>fa et rfl) (fun _=>G) (bT 10 rfl (by kernel_rfl) (fun _=>fa k0 rfl) (fun _=>G) (gG 11 rfl (by kernel_rfl) (fun w' a=>ld mo rfl (Md.aC a ((aO hF2.cells).trans rfl) bm)) G (bT 12 rfl (by kernel_rfl) (fun _=>aB (.pointer (some ⟨H.rb,0,none⟩)) rfl) (fun _=>G) (gG 13 rfl (by kernel_rfl) (fun w' a=>dx nQ rfl (rfl) (fun j hj=>bD.c5 ⟨_,Md.az a hb2 cZ⟩ j)) G (bT 14 rfl (by kernel_rfl) (fun _=>mv) (fun _=>G) ?_)))))))
 refine z6 15 rfl (by kernel_rfl) rfl (cj C8 (KE B H {F with aX:=F.aX++ [(⟨x,(if r.getD 0 []=bO then 2 else 1:Nat),(decide (r.getD 2 []= [89])),F.rules.length,n⟩:bV)],rules:=F.rules++xs} C ag rest aW seen (⟨x,(if r.getD 0 []=bO then 2 else 1:Nat),(decide (r.getD 2 []= [89])),F.rules.length,n⟩:bV) av B cc pG w15.drew (hF2.wk (Md.refl _ _).drew) (hR2.wk (Md.refl _ _).drew) hB2 (by show (if r.getD 0 []=bO then 2 else 1)=1∨(if r.getD 0 []=bO then 2 else 1)=2; split <;> simp) (hT15.wk (Md.refl _ _).drew) hrow.2) rfl fun d7 w129 cO=> ?_) (fun c w' s ao hF=>by obtain ⟨e,he,h,h2⟩:=s; exact ⟨_,_,sL O ar hnx aN (aq.bad (by omega) b5 he),h,hMw2.trans (Wk.mw (e6 h2))⟩)
 obtain ⟨q,bo,hql,⟨vn,rfl,bZ⟩,hE129⟩:=cO
 obtain ⟨aD,aE,rfl⟩:=bZ.slice
 have hE129:=e6 hE129
 have bG:(fun w'=>Md (fun k=>C.cB.ownBlock=some k) w15 w') w129:=Md.mono hE129 (fun _ _ h=>h.elim)
 refine ⟨bG,?_⟩
 refine fA 16 rfl (by kernel_rfl) (ib rq rfl rfl rfl fun dJ w130 dQ a8 ch=> ?_)
 have hE130:=hE129.trans a8.md
 have hF4:=hF2.wk hE130
 have hR4:=hR2.wk hE130
 have hT4:=hT2.wk hE130
 have hb4x:=Wk.az hE130 hb2
 have hTq4:=bZ.wk a8.md
 have hsz4:=(Array.getElem?_eq_some_iff.1 hR4.cells).1
 have bI:(fun w'=>Md (fun k=>C.cB.ownBlock=some k) w15 w') w130:=bG.trans' a8.md (fun _ _ h=>h.elim)
 refine ⟨bI,?_⟩
 refine fA 17 rfl (by kernel_rfl) (ap rq (hF4.cM) rfl (by omega) rfl (ak.cQ ch) (rfl) (rfl) (by simp only [List.length_append]; omega) (by simp only [List.length_append]; omega) fun bq w131 b0 ah d3 dX=> ?_)
 have hMw5:=(hMw2.trans (Wk.mw hE130)).trans (Mw.of ah (TF.own hF4.cM (by decide)) (fun k hk=>(c7 hF4.cM hk).1))
 have hR5x:=bS.own hR4 hF4.cM ah (by decide)
 have hc5:=ah.az hF4.cells (cg hF4.cM hF4.cells (by decide))
 have hb5:=ah.az hb4x (cg hF4.cM hb4x (by decide))
 have hT5:=hT4.md ah (eN hF4.cM (by decide))
 have c1:World.ownsRow w131 B 155 7 bq ((F.rules++xs)++ [q]).length (fU (((F.rules++xs)++ [q]).zip (C.rn++ [.slice aD q.next.length aE]))):=by
  have dr:(F.rules++xs).length=C.rn.length:=by have :=hF4.nx.1; rw [List.length_map] at this; exact this.symm
  rw [List.zip_append dr,show fU ((F.rules++xs).zip C.rn++ [q].zip [.slice aD q.next.length aE])=fU ((F.rules++xs).zip C.rn)++iq (q,.slice aD q.next.length aE) from by simp [fU],List.length_append]
  exact b0
 have aS:(fun w'=>Md (fun k=>C.cB.ownBlock=some k) w15 w') w131:=bI.trans' ah (fun _ _ h=>h)
 refine ⟨aS,?_⟩
 refine bT 18 rfl (by kernel_rfl) (fun _=>nc rfl) (fun _=>aS) (bT 19 rfl (by kernel_rfl) (fun _=>fa et rfl) (fun _=>aS) (bT 20 rfl (by kernel_rfl) (fun _=>fa k0 rfl) (fun _=>aS) (cD 21 rfl (by kernel_rfl) (by kernel_rfl) (ca ya rfl rfl (v:=bq) (dT b0) hc5 (by show _ < 14; omega) fun w9 hM9 a5=> ?_))))
 have hF6:=cC.pB (x:=q) (vx:= .slice aD q.next.length aE) hF4 hTq4 ah c1 hM9 a5
 have hR6:=bS.ko hR5x hc5 hM9
 have hb6x:=hM9.az hb5 (fun h=>by rw [h,hc5] at hb5; cases hb5)
 have hT6:=hT5.md hM9 (dK hc5 (by decide))
 have hMw6:=hMw5.trans (Mw.of hM9 (TF.eq (cR hc5) (by decide)) (fun k hk=>hk ▸ hF4.lo.1))
 refine dF (by kernel_rfl) ?_
 refine tn (cr _ _ ?_)
 have hS14:(fun w'=>Md (fun k=>ag.vn.ownBlock=some k) w9 w') w9.drew:=(Md.refl _ _).drew
 refine dG (fun w'=>Md (fun k=>ag.vn.ownBlock=some k) w9 w') 13 rfl wide hS14 (bT 0 rfl (by kernel_rfl) (fun _=>aB (.pointer (some ⟨H.rb,0,none⟩)) rfl) (fun _=>hS14) (bT 1 rfl (by kernel_rfl) (fun _=>aB (.pointer (some ⟨H.rb,0,none⟩)) rfl) (fun _=>hS14) (bT 2 rfl (by kernel_rfl) (fun _=>nc rfl) (fun _=>hS14) (bT 3 rfl (by kernel_rfl) (fun _=>fa tC rfl) (fun _=>hS14) (gG 4 rfl (by kernel_rfl) (fun w' a=>ld nT rfl (Md.aC a ((aO hR6.cells).trans rfl) (cg hR6.on hR6.cells (by decide)))) hS14 (bT 5 rfl (by kernel_rfl) (fun _=>aB (.pointer (some ⟨H.rb,0,none⟩)) rfl) (fun _=>hS14) (bT 6 rfl (by kernel_rfl) (fun _=>nc rfl) (fun _=>hS14) ?_)))))))
 refine bT 7 rfl (by kernel_rfl) (fun _=>fa oq rfl) (fun _=>hS14) (gG 8 rfl (by kernel_rfl) (fun w' a=>ld bQ rfl (Md.aC a ((aO hR6.cells).trans rfl) (cg hR6.on hR6.cells (by decide)))) hS14 (fA 9 rfl (by kernel_rfl) (ea jK rfl rfl fun dL w144 dR cJ ck=> ?_)))
 have hE144:=e6 cJ.md
 have hR7x:=hR6.wk hE144
 have hF7x:=hF6.wk hE144
 have hsz7:=(Array.getElem?_eq_some_iff.1 hR7x.cells).1
 have bP:(fun w'=>Md (fun k=>ag.vn.ownBlock=some k) w9 w') w144:=Md.mono hE144 (fun _ _ h=>h.elim)
 refine ⟨bP,?_⟩
 refine fA 10 rfl (by kernel_rfl) (ap jK (hR7x.on) rfl (by omega) rfl (ak.cQ ck) (rfl) (rfl) (by simp only [List.length_append]; omega) (by simp only [List.length_append]; omega) fun aY w145 b1 ai d4 dZ=> ?_)
 have hMw7x:=(hMw6.trans (Wk.mw hE144)).trans (Mw.of ai (TF.own hR7x.on (by decide)) (fun k hk=>(c7 hR7x.on hk).1))
 have bX:TF w144 [5] (fun k=>ag.vn.ownBlock=some k):=TF.own hR7x.on (by decide)
 have hF8x:=hF7x.md ai bX (by decide) (fun h=>by obtain ⟨f,hf,_⟩:=hF7x.cm; exact bX.no (dt hf) (by decide) h)
 have hc8:=ai.az hR7x.cells (cg hR7x.on hR7x.cells (by decide))
 have hb8x:=ai.az (Wk.az hE144 hb6x) (cg hR7x.on (Wk.az hE144 hb6x) (by decide))
 have hT8y:=(hT6.wk hE144).md ai (eN hR7x.on (by decide))
 have c2:World.ownsRow w145 B 3 1 aY ((F.rules++xs)++ [q]).length (((F.rules++xs)++ [q]).map fun r=>Value.int .i64 (r.line:Nat)):=by
  rw [List.map_append,List.length_append]
  show World.ownsRow w145 B 3 1 aY _ (_++ [Value.int .i64 (q.line:Nat)])
  rw [hql]
  exact b1
 have bd:(fun w'=>Md (fun k=>ag.vn.ownBlock=some k) w9 w') w145:=bP.trans' ai (fun _ _ h=>h)
 refine ⟨bd,?_⟩
 refine bT 11 rfl (by kernel_rfl) (fun _=>nc rfl) (fun _=>bd) (bT 12 rfl (by kernel_rfl) (fun _=>fa tC rfl) (fun _=>bd) (cD 13 rfl (by kernel_rfl) (by kernel_rfl) (ca x5 rfl rfl (v:=aY) (dT b1) hc8 (by show _ < 7; omega) fun w10 aG hB10=> ?_)))
 have bW:TF w145 [94] (fun k=>k=H.rb):=TF.eq (cR hc8) (by decide)
 have hF9x:=hF8x.md aG bW (by decide) (fun h=>by obtain ⟨f,hf,_⟩:=hF8x.cm; exact bW.no (dt hf) (by decide) h)
 refine dF (by kernel_rfl) ?_
 exact bn (tn (cp _ _ (rg rfl (p (ad rfl rfl (bp (by omega))) (p mv (nl (tn (⟨_,by omega,i+1,xs++ [q],rest,aW,{C with cB:=bq,rn:=C.rn++ [.slice aD q.next.length aE]},{ag with vn:=aY},(by omega),((by rw [show n - (i+1)=n - i - 1 by omega]; exact aq.step (by omega) b5 bo)),((by rw [List.length_append,hxl]; rfl)),((by rw [← List.append_assoc]; exact hF9x)),((by rw [← List.append_assoc]; exact bS.Ji (q:=q) hR7x ai c2 aG hB10 rfl (fun _=>rfl))),(⟨by simp only [List.length_append,List.length_singleton]; omega,hB2.sl,hB2.row,hB2.kd,hB2.al⟩),((hMw7x.trans (Mw.of aG (TF.eq (cR hc8) (by decide)) (fun k hk=>hk ▸ hR7x.lo.1)))),((aG.az hb8x (fun h=>by rw [h,hc8] at hb8x; cases hb8x))),((hT8y.md aG (dK hc8 (by decide)))),rfl,rfl,rfl,rfl,rfl,rfl⟩))))))))
 refine ext (te _ (te _ (be (fY ?_))))
 refine f0 rfl ?_
 rw [show n - i=0 by omega] at aq
 exact ⟨rfl,_,rows',aV,EE O ar hnx aN aq.done,⟨C,R',bx,ab,aF⟩,hMw⟩
end Go.Hb.jN
end
section
set_option maxRecDepth 20000
set_option maxHeartbeats 1000000
namespace Go.Hb.kK
open Go.Hb.di
open Go.Proofs
open Go.Hb.eS Go.Hb.fE Go.Hb.iQ Go.Hb.fN Go.Hb.iw Go.Hb.jN Go.Hb.kg Go.Hb.gA Go.Hb.lz Go.Hb.gW Go.Hb.kN Go.Hb.lx Go.Hb.gl Go.Hb.fQ
def pV:bV:=⟨0,0,false,0,0⟩
theorem GA {x:Nat} :∀ {cs:List bV} {i:Nat},cs.findIdx? (fun c=>decide (c.flag=x))=some i→∃ c,cs[i]? =some c∧dJ cs x=some c:=by
 intro cs
 induction cs with
 | nil=>intro i h; simp at h
 | cons a l ih=>
   intro i h
   rw [List.findIdx?_cons] at h
   unfold dJ
   rw [List.find?_cons]
   by_cases p:a.flag=x
   · simp only [p,decide_true,if_true] at h ⊢
     cases h
     exact ⟨a,rfl,rfl⟩
   · simp only [p,decide_false] at h ⊢
     simp only [Bool.false_eq_true,if_false,Option.map_eq_some_iff] at h
     obtain ⟨j,hj,rfl⟩:=h
     obtain ⟨c,h1,h2⟩:=ih hj
     exact ⟨c,by simpa using h1,h2⟩
theorem Ax {F:aH} {x:Nat} (h:x=F.sp.getD 0 0):jg F x=true :=by unfold jg; rw [decide_eq_true h]; rfl
theorem Ay {F:aH} {x:Nat} (h:(dJ F.aX x).isSome=true) (hk:((dJ F.aX x).getD pV).kind=2):jg F x=true :=by
 unfold jg
 obtain ⟨c,hc⟩:=Option.isSome_iff_exists.1 h
 rw [hc] at hk ⊢
 simp only [Option.getD_some] at hk
 simp [hk]
theorem qV {F:aH} {x:Nat} (h0:x≠F.sp.getD 0 0) (h:(dJ F.aX x).isSome=true) (hk:((dJ F.aX x).getD pV).kind≠2):jg F x=false :=by
 unfold jg
 obtain ⟨c,hc⟩:=Option.isSome_iff_exists.1 h
 rw [hc] at hk ⊢
 simp only [Option.getD_some] at hk
 rw [decide_eq_false h0]
 simp [hk]
theorem qW {F:aH} {x:Nat} (h0:x≠F.sp.getD 0 0) (h:(dJ F.aX x).isSome=false):jg F x=false :=by
 unfold jg
 rw [decide_eq_false h0]
 cases hc:dJ F.aX x with
 | none=>rfl
 | some c=>rw [hc] at h; cases h
theorem lG {F:aH} {q:eH} {j:Nat} (hj:j < q.next.length) (h:jg F (q.next.getD j 0)=false):jR F q=true :=by
 unfold jR
 rw [List.any_eq_true]
 exact ⟨_,c6 hj,by rw [h]; rfl⟩
theorem wv {F:aH} {q:eH} (h:∀ j,j < q.next.length→jg F (q.next.getD j 0)=true):jR F q=false :=by
 unfold jR
 rw [List.any_eq_false]
 intro x a
 obtain ⟨j,hj,rfl⟩:=k5 0 a
 rw [h j hj]; simp
theorem lO {p:eH→Bool} {q:eH} :∀ {l:List eH} {i:Nat},(∀ j s,j < i→l[j]? =some s→p s=false)→l[i]? =some q→p q=true→l.find? p=some q:=by
 intro l
 induction l with
 | nil=>intro i _ h; simp at h
 | cons a l ih=>
   intro i A hi hp
   rw [List.find?_cons]
   cases i with
   | zero=>simp only [List.getElem?_cons_zero,Option.some.injEq] at hi; subst hi; rw [hp]
   | succ i=>
     rw [A 0 a (by omega) rfl]
     exact ih (i:=i) (fun j s hj C=>A (j+1) s (by omega) (by simpa using C)) (by simpa using hi) hp
theorem yP {p:eH→Bool} {l:List eH} (h:∀ j a,j < l.length→l[j]? =some a→p a=false):l.find? p=none:=by
 rw [List.find?_eq_none]
 intro q i
 obtain ⟨j,hj⟩:=List.getElem?_of_mem i
 rw [h j q (List.getElem?_eq_some_iff.1 hj).1 hj]; simp
theorem GD {x:Nat} {cs:List bV} (h:cs.findIdx? (fun c=>decide (c.flag=x))=none):dJ cs x=none:=by
 rw [List.findIdx?_eq_none_iff] at h
 unfold dJ
 rw [List.find?_eq_none]
 intro c hc
 simpa using h c hc
theorem yI (B fb mc:Nat) (F:aH) (V:dV) (x:Nat) (w:World) (hF:cC w B fb mc F V) (aA:F.aX.length≤70000):
 aU Tryz.prog 67 (List.toArray [aG fb,aM x]) w (fun v w'=>v= .tuple #[.agg (kT ((dJ F.aX x).getD pV)).toArray,.bool (dJ F.aX x).isSome]∧Wk w w'):=by
 obtain ⟨ac,gh,G⟩:=bU hF.dp
 have ho11:=hF.dp
 rw [G] at ho11
 have ao:Hb.aC w.heap fb 11=some (.slice ac F.aX.length gh):=by rw [← G]; exact (aO hF.cells).trans rfl
 obtain ⟨f,hf,ar⟩:=hF.cm
 obtain ⟨iv,ob,av,aw,C⟩:∃ (iv:Nat) (ob:Bool),(f (aM x)).getD (.int .i64 0)=aa iv∧(f (aM x)).isSome=ob∧((ob=false∧dJ F.aX x=none)∨(ob=true∧∃ c,F.aX[iv]? =some c∧dJ F.aX x=some c)):=by
  rw [ar x]
  cases hfi:F.aX.findIdx? (fun c=>decide (c.flag=x)) with
  | none=>exact ⟨0,false,rfl,rfl,.inl ⟨rfl,GD hfi⟩⟩
  | some i=>exact ⟨i,true,rfl,rfl,.inr ⟨rfl,GA hfi⟩⟩
 refine enter Tryz.func67 rfl Tryz.ntmps67 rfl ?_
 refine U (fun _ I=>(e (al oX fun ay w4 az a A=>ae (((I _ _ (sq (fun _ J=>sq (fun _ M=> ?_)))))))))
 refine rg rfl (ab (aG fb) (p (ij l6 rfl rfl) (ag ((M _ _ (cf (rfl) (au (tn (J _ _ ?_)))))))))
 refine U (fun _ O=>(ab (aG fb) (p (nc rfl) (p (fa zb rfl) (p (ld nU rfl (Wk.aC a.md ((aO hF.cells).trans rfl))) (ab (aM x) (p (Ab dY kJ mG (hf.wk a.md) rfl rfl (⟨_,rfl⟩) (av) (aw)) ?_)))))))
 refine p mv (p (xt rfl rfl) (p (xt rfl rfl) (p aj (ae (((O _ _ (sq (fun _ Y=> ?_)))))))))
 refine U (fun _ Z=>(p mv (p (no rfl) (ag ((Z _ _ (cb rfl (fun s=> ?_) (fun s=> ?_))))))))
 have ax:ob=false :=by simpa using s
 have aq:dJ F.aX x=none:=by rcases C with ⟨_,h⟩ | ⟨h,_⟩; exact h; rw [ax] at h; cases h
 refine U (fun _ q=>(p (bY (ps:= []) (L:= [.int .u16 0,.int .i64 0,.bool false,.int .i64 0,.int .i64 0]) uZ rfl (rfl)) (e (bX m7 rfl rfl rfl rfl (A) (by simp) fun aB am ah=>ae (((q _ _ (rt ?_))))))))
 exact tr (dO rfl (c8 (cs:=kT pV) rfl nQ rfl (fun j hj=>ah.c5 j)) dE (⟨by rw [aq]; rfl,a.md.trans' am (fun k hk h=>by omega)⟩))
 have hob1:ob=true :=by simpa using s
 obtain ⟨c,E,ap⟩:∃ c,F.aX[iv]? =some c∧dJ F.aX x=some c:=by rcases C with ⟨h,_⟩ | ⟨_,h⟩; rw [hob1] at h; cases h; exact h
 have hivl:=(List.getElem?_eq_some_iff.1 E).1
 have ho11x:=aE ho11 a.md
 refine au (tn (Y _ _ (U (fun _ q=>(ab (aG fb) (p (nc rfl) (p (fa et rfl) (p (fa ni rfl) ?_))))))))
 refine p (ld pq rfl (Wk.aC a.md ao)) (p mv (p (aJ Gt rfl rfl (by omega) (ak.ok ((aI ho11x).2) (fun h=>by have :=congrArg List.length h; rw [show (js F.aX).length=F.aX.length*5 from kq (f:=kT) (m:=5) (fun _=>rfl) _] at this; simp at this; omega))) (p (dx nQ rfl (rfl) (gi (f:=kT) (m:=5) (fun _=>rfl) (aI ho11x).2 E)) (e (bX m7 rfl rfl rfl rfl (A) (by simp) fun aD an ai=>ae (((q _ _ ?_))))))))
 exact rt (dO rfl (c8 (cs:=kT c) rfl nQ rfl (fun j hj=>ai.c5 j)) dE (⟨by rw [ap]; rfl,a.md.trans' an (fun k hk h=>by omega)⟩))
theorem Ex (B:Nat) (H:bM) (F:aH) (rows:List Rw) (ln:Nat) (seen:List Tx) (w:World) (a6:St w B H F rows ln seen) (hnx:∀ q∈F.rules,q.next.length≤64):
 dN Tryz.prog 35 (List.toArray [.pointer (some ⟨H.rb,0,none⟩)]) w (fun v w'=>v= .tuple #[]∧F.rules.find? (jR F)=none∧(∃ V R' ae,cC w' B H.fb H.mc F V∧bS w' B H F R' rows ae seen)∧dM B H w w') (fun c w'=> ∃ q,F.rules.find? (jR F)=some q∧c=fJ 25 q.line 118∧dM B H w w'):=by
 obtain ⟨V,R,hF,ab,hB⟩:=a6
 obtain ⟨ag,gq,aw⟩:=bU hF.cM
 have ho12:=hF.cM
 rw [aw] at ho12
 have a7:Hb.aC w.heap H.fb 12=some (.slice ag F.rules.length gq):=by rw [← aw]; exact (aO hF.cells).trans rfl
 obtain ⟨vr,vs,vn⟩:=R
 obtain ⟨Y,cv,bx⟩:=bU ab.on
 obtain rfl :vn= .slice Y F.rules.length cv:=bx
 have hbl:=hB.len
 have hlo:=ab.lo
 refine gr Tryz.func35 rfl Tryz.ntmps35 rfl ?_
 refine sq (fun bB aQ=>rg rfl (p (aB (.pointer (some ⟨H.rb,0,none⟩)) rfl) (p (nc rfl) (p (fa eL rfl) (p (ld eo rfl ((aO ab.cells).trans rfl)) (p (nc rfl) (p (fa et rfl) ?_)))))))
 refine p (fa k0 rfl) (p (ld mo rfl (a7)) (p (ba rE rfl rfl) (p mv (nl (tn (aQ _ _ (az (lp (fun J U wI=> ∃ (i ae:Nat),(i≤F.rules.length)∧(∀ j q,j < i→F.rules[j]? =some q→jR F q=false)∧(cC wI B H.fb H.mc F V)∧(bS wI B H F ⟨vr,vs,.slice Y F.rules.length cv⟩ rows ae seen)∧(dM B H w wI)∧(U 0= .pointer (some ⟨H.rb,0,none⟩))∧(U 15= .slice ag F.rules.length gq)∧(U 16= .int .i64 (F.rules.length:Nat))∧(U 17= .int .i64 (i:Nat))∧(F.rules.length - i=J)) _ ⟨0,ln,(by omega),((fun j q hj=>by omega)),hF,ab,(Md.refl _ _),rfl,rfl,rfl,rfl,rfl⟩ ?_))))))))
 rintro J U wI ⟨i,ae,hi,C,aa,ao,hMw,bh,bi,bk,bm,rfl⟩
 refine fx 0 bh (fx 15 bi (fx 16 bk (fx 17 bm (sq (fun bF aT=>rg rfl (p (lt rfl rfl) (nl (tn (aT _ _ (sq (fun bI aU=>cd rfl (fun hc18=> ?_) (fun hc18=> ?_))))))))))))
 refine au (tn (aU _ _ (sq (fun bL aV=>az (sq (fun bN aW=> ?_))))))
 have ho12I:=aa.cM
 rw [aw] at ho12I
 have aA:i < F.rules.length:=by omega
 obtain ⟨vn,bw,aq⟩:=c4.get aa.nx (i:=i) (by rw [List.length_map]; exact aA)
 obtain ⟨q,s⟩:∃ q,F.rules[i]? =some q:=⟨_,List.getElem?_eq_getElem aA⟩
 have bg:(F.rules.map (·.next)).getD i []=q.next:=by rw [List.getD_eq_getElem?_getD,List.getElem?_map,s]; rfl
 rw [bg] at aq
 have hqnl:=hnx q (List.mem_of_getElem? s)
 obtain ⟨ah,ai,rfl⟩:=aq.slice
 have aD:(F.rules.zip V.rn)[i]? =some (q,.slice ah q.next.length ai):=by rw [List.getElem?_zip_eq_some]; exact ⟨s,bw⟩
 have aE:(fU (F.rules.zip V.rn)).length=(F.rules.zip V.rn).length*7:=kq (f:=iq) (m:=7) (fun _=>rfl) _
 have bc:(F.rules.map fun r=>Value.int .i64 (r.line:Nat))[i]? =some (.int .i64 (q.line:Nat)):=by rw [List.getElem?_map,s]; rfl
 refine rg rfl (p (aB (.int .i64 (i:Nat)) rfl) (p (aJ s5 rfl rfl (by omega) (ak.ok ((aI ho12I).2) (fun h=>by rw [h] at aE; have h2:0=(F.rules.zip V.rn).length*7:=aE; have h3:=(List.getElem?_eq_some_iff.1 aD).1; omega))) ?_))
 refine p (dx rT rfl (rfl) (gi (f:=iq) (m:=7) (fun _=>rfl) (aI ho12I).2 aD)) (e (al vw fun bV w3 bY ay aL=> ?_))
 skip
 refine p (bG (.int .i64 (i:Nat)) rfl) (e (bX sP rfl rfl rfl rfl (aL) (by simp) fun wt2_5 a1 aK=> ?_))
 have Z:Wk wI wt2_5:=ay.md.trans' a1 (fun k hk h=>by omega)
 have hF3:=aa.wk Z
 have hR3:=ao.wk Z
 have hz3:=ay.size
 have hlr:=(Array.getElem?_eq_some_iff.1 ao.cells).1
 refine nl (tn (aW _ _ (sq (fun bO aX=>rg rfl (p (aB (.pointer (some ⟨H.rb,0,none⟩)) rfl) (p (aB (.pointer (some ⟨H.rb,0,none⟩)) rfl) (p (nc rfl) (p (fa tC rfl) ?_))))))))
 refine p (ld nT rfl ((aO hR3.cells).trans rfl)) (p (aB (.int .i64 (i:Nat)) rfl) (p (aJ kn rfl rfl (by omega) (ak.ok ((aI hR3.on).2) (by simp; intro h; rw [h] at s; simp at s))) (p (ld bQ rfl (ak.gC (aI hR3.on).2 bc)) (p (nc rfl) (p (fa oq rfl) (e (ca fW rfl rfl (v:= .int .i64 (q.line:Nat)) rfl hR3.cells (by show _ < 7; decide) fun w9 hM9 aP=> ?_)))))))
 have hR9:=hR3.cT (R':=⟨vr,vs,.slice Y F.rules.length cv⟩) (ln':=q.line) hM9 aP rfl hR3.rws hR3.rt
 have hF9:=hF3.rb hR3 hM9
 have hb9:=hM9.B aK (fun h=>by omega)
 have hT9:=(aq.wk Z).md hM9 (dK hR3.cells (by decide))
 have hMw9:=(hMw.trans (Wk.mw Z)).trans (dM.rb hR3 hM9)
 refine nl (tn (aX _ _ (sq (fun bP aY=>rg rfl (p (fa qq rfl) (p (ld ml rfl ((hb9.aC 6).trans rfl)) (p (ba kD rfl rfl) (p mv ?_))))))))
 refine nl (tn (aY _ _ (az (lp (fun J E I=> ∃ (j:Nat),(j≤q.next.length)∧(∀ O,O < j→jg F (q.next.getD O 0)=true)∧(cC I B H.fb H.mc F V)∧(bS I B H F ⟨vr,vs,.slice Y F.rules.length cv⟩ rows q.line seen)∧(dM B H w I)∧(Tg I B 71 q.next.length (.slice ah q.next.length ai) (q.next.map aM))∧(E 0= .pointer (some ⟨H.rb,0,none⟩))∧(E 15= .slice ag F.rules.length gq)∧(E 16= .int .i64 (F.rules.length:Nat))∧(E 17= .int .i64 (i:Nat))∧(E 33= .slice ah q.next.length ai)∧(E 34= .int .i64 (q.next.length:Nat))∧(E 35= .int .i64 (j:Nat))∧(q.next.length - j=J)) _ ⟨0,(by omega),((fun O bb=>by omega)),hF9,hR9,hMw9,hT9,rfl,rfl,rfl,rfl,rfl,rfl,rfl,rfl⟩ ?_))))
 rintro J E I ⟨j,hj,ar,am,ap,ax,hTJ,bo,bq,br,bs,bt,bu,bv,rfl⟩
 refine fx 0 bo (fx 15 bq (fx 16 br (fx 17 bs (fx 33 bt (fx 34 bu (fx 35 bv (sq (fun bR aZ=>rg rfl (p (lt rfl rfl) (nl (tn (aZ _ _ (sq (fun bT a0=>cd rfl (fun a9=> ?_) (fun a9=> ?_)))))))))))))))
 refine au (tn (a0 _ _ (sq (fun bC an=>az (sq (fun bD aR=> ?_))))))
 have bz:(q.next.map aM)[j]? =some (aM (q.next.getD j 0)):=by rw [List.getElem?_map,List.getD_eq_getElem?_getD,List.getElem?_eq_getElem (by omega :j < q.next.length)]; rfl
 refine rg rfl (p (aJ bj rfl rfl (by omega) (ak.ok (hTJ.bH.2) (bl (by omega)))) (p (ld bJ rfl (ak.gC hTJ.bH.2 bz)) (p aj (nl (tn (aR _ _ (sq (fun bE aS=>rg rfl ?_))))))))
 refine p (aB (.pointer (some ⟨H.rb,0,none⟩)) rfl) (p (nc rfl) (p (fa eL rfl) (p (ld eo rfl ((aO ap.cells).trans rfl)) (p mv (e (cl xD (yI B H.fb H.mc F V (q.next.getD j 0) _ am (by omega)) rfl fun bZ w45 a5=> ?_))))))
 obtain ⟨rfl,hE45⟩:=a5
 have hz45:=hE45.size
 refine p mv (p (xt rfl rfl) (p (xt rfl rfl) (e (al oX fun bW w6 hb6 a3 hB6=>e (bX m7 rfl rfl rfl rfl (hB6) (by simp) fun wt7_10 a2 aN=> ?_)))))
 have hE7:Wk I wt7_10:=(hE45.trans a3.md).trans' a2 (fun k hk h=>by omega)
 have hF7:=am.wk hE7
 have hR7:=ap.wk hE7
 have hMw7:=ax.trans (Wk.mw hE7)
 refine p aj (nl (tn (aS _ _ (rg rfl (p (aB (.pointer (some ⟨H.rb,0,none⟩)) rfl) (p mv (p (aB (.pointer (some ⟨H.rb,0,none⟩)) rfl) (p (nc rfl) ?_))))))))
 refine p (fa eL rfl) (p (ld eo rfl ((aO hR7.cells).trans rfl)) (p (nc rfl) (p (fa et rfl) (p (fa za rfl) (p (il r4 rfl rfl (by omega)) (p (ld bJ rfl ((aO hF7.cells).trans rfl)) (p (a8 rfl rfl) ?_)))))))
 refine p mv (gs (t:=60) rfl (fun G=> ?_) (fun G=> ?_))
 refine sk rfl rfl rfl rfl (sk rfl rfl rfl rfl (ek rfl rfl rfl (ek rfl rfl rfl (ek rfl rfl rfl (sk rfl rfl rfl rfl (p (bf rfl) ?_))))))
 refine eP rfl (cj eT (e4 H.rb q.line _ 118 wt7_10 hR7.bK (by decide)) rfl fun aF w68 M=> ?_) (fun c w' a aG hF=>by
  first
   | exact absurd a.2.1 (by decide)
   | exact ⟨q,lO C s (lG (j:=j) (by omega) (qV (fun h=>G (by rw [h])) A (by have :=of_decide_eq_false a.2.1; omega))),a.1,by rw [a.2.2]; exact hMw7⟩
   | exact ⟨q,lO C s (lG (j:=j) (by omega) (qW (fun h=>G (by rw [h])) (by simpa using A))),a.1,by rw [a.2.2]; exact hMw7⟩)
 obtain ⟨rfl,ac,rfl⟩:=M
 refine nl (bn (tn (an _ _ (rg rfl (p (ad rfl rfl (bp (by omega))) (p mv (nl (tn ?_))))))))
 exact ⟨_,by omega,j+1,(by omega),((fun k hk=>by rcases Nat.lt_or_ge k j with h | h <;> first | exact ar k h | (rw [show k=j by omega]; exact Ax (by omega)))),hF7,hR7,hMw7,(hTJ.wk hE7),rfl,rfl,rfl,rfl,rfl,rfl,rfl,rfl⟩
 refine pg rfl rfl rfl mv (pg rfl rfl rfl mv (gb (t:=62) rfl (fun A=> ?_) (fun A=> ?_)))
 refine pg rfl rfl rfl (fa qs rfl) (pg rfl rfl rfl (ld bQ rfl ((aN.aC 1).trans rfl)) (pg rfl rfl rfl (a8 rfl rfl) (pg rfl rfl rfl (bf rfl) (p (a4 rfl) ?_))))
 refine eP rfl (cj eT (e4 H.rb q.line _ 118 wt7_10 hR7.bK (by decide)) rfl fun aF w68 M=> ?_) (fun c w' a aG hF=>by
  first
   | exact absurd a.2.1 (by decide)
   | exact ⟨q,lO C s (lG (j:=j) (by omega) (qV (fun h=>G (by rw [h])) A (by have :=of_decide_eq_false a.2.1; omega))),a.1,by rw [a.2.2]; exact hMw7⟩
   | exact ⟨q,lO C s (lG (j:=j) (by omega) (qW (fun h=>G (by rw [h])) (by simpa using A))),a.1,by rw [a.2.2]; exact hMw7⟩)
 obtain ⟨rfl,ac,rfl⟩:=M
 refine nl (bn (tn (an _ _ (rg rfl (p (ad rfl rfl (bp (by omega))) (p mv (nl (tn ?_))))))))
 exact ⟨_,by omega,j+1,(by omega),((fun k hk=>by rcases Nat.lt_or_ge k j with h | h <;> first | exact ar k h | (rw [show k=j by omega]; exact Ay A (by have :=of_decide_eq_true ac; omega)))),hF7,hR7,hMw7,(hTJ.wk hE7),rfl,rfl,rfl,rfl,rfl,rfl,rfl,rfl⟩
 refine sk rfl rfl rfl rfl (sk rfl rfl rfl rfl (sk rfl rfl rfl rfl (pg rfl rfl rfl (a4 rfl) (p (a4 rfl) ?_))))
 refine eP rfl (cj eT (e4 H.rb q.line _ 118 wt7_10 hR7.bK (by decide)) rfl fun aF w68 M=> ?_) (fun c w' a aG hF=>by
  first
   | exact absurd a.2.1 (by decide)
   | exact ⟨q,lO C s (lG (j:=j) (by omega) (qV (fun h=>G (by rw [h])) A (by have :=of_decide_eq_false a.2.1; omega))),a.1,by rw [a.2.2]; exact hMw7⟩
   | exact ⟨q,lO C s (lG (j:=j) (by omega) (qW (fun h=>G (by rw [h])) (by simpa using A))),a.1,by rw [a.2.2]; exact hMw7⟩)
 obtain ⟨rfl,ac,rfl⟩:=M
 refine nl (bn (tn (an _ _ (rg rfl (p (ad rfl rfl (bp (by omega))) (p mv (nl (tn ?_))))))))
 exact absurd ac (by decide)
 refine ext (te _ (te _ (be (bn (tn (aV _ _ (rg rfl (p (ad rfl rfl (bp (by omega))) ?_))))))))
 exact p mv (nl (tn (⟨_,by omega,i+1,q.line,(by omega),((fun k bA hk av=>by rcases Nat.lt_or_ge k i with h | h <;> first | exact C k bA h av | (rw [show k=i by omega,s] at av; cases av; exact wv (fun O bb=>ar O (by omega))))),am,ap,ax,rfl,rfl,rfl,rfl,rfl⟩)))
 refine ext (te _ (te _ (be (fY ?_))))
 refine f0 rfl ?_
 exact ⟨rfl,yP (fun j q hj bd=>C j q (by omega) bd),⟨V,_,_,aa,ao⟩,hMw⟩
end Go.Hb.kK
end
section
set_option maxRecDepth 20000
set_option maxHeartbeats 1000000
namespace Go.Hb.vB
open Go.Hb.di
open Go.Proofs
open Go.Hb.eS
theorem Kb (s A:Nat) (w:World):
 CallsD Tryz.prog 31 (List.toArray [.pointer (some ⟨s,0,none⟩),.pointer (some ⟨A,0,none⟩)]) .returning w (fun a u1 w'=> ∃ v,a= .returned v∧u1= .returning∧(fun w'=>Wk w w') w'):=by
 refine xK (v:= .nilIface) Tryz.func31 rfl Tryz.ntmps31 rfl (fun c₀ cs hc=> .inr ⟨by simp [recoverD,hc],rfl,rfl⟩) ?_
 refine p (Lv ue Mu rfl) (p mv (p (xt rfl rfl) (p (xt rfl rfl) (e (al iP fun E I hb2 q hB2=>e (bX fR rfl rfl rfl rfl (hB2) (by simp) fun J j G=>p aj (nl ?_)))))))
 refine tn (sq (fun C i=>rg rfl (p mv (nl (tn (i _ _ (cf (rfl) (au ?_))))))))
 refine f0 rfl ?_
 exact q.md.trans' j (fun k hk h=>by omega)
theorem Ka (a i:Nat) (ln:Nat) (er:Int) (w:World) (h2:∃ v:Value,w.heap[a]? =some (.cells [v].toArray 22 (0,0))) (h3:∃ L:List Value,L.length=3∧w.heap[i]? =some (.cells L.toArray 25 (0,0))) (hne:a≠i):
 CallsD Tryz.prog 31 (List.toArray [.pointer (some ⟨a,0,none⟩),.pointer (some ⟨i,0,none⟩)]) (.panicking (fJ 25 ln er)) w (fun O u1 w'=> ∃ v,O= .returned v∧u1=(.panicking [{v:= .iface 25 (.agg [.int .i64 1,.int .i64 (ln:Nat),.int .i64 er].toArray),recovered:=true}])∧(fun w'=>w'.heap[a]? =some (.cells [.pointer none].toArray 22 (0,0))∧w'.heap[i]? =some (.cells [.int .i64 1,.int .i64 (ln:Nat),.int .i64 er].toArray 25 (0,0))∧Md (fun k=>k=a∨k=i) w w') w'):=by
 obtain ⟨v2,h2⟩:=h2
 obtain ⟨I,aa,h3⟩:=h3
 have hl2:=(Array.getElem?_eq_some_iff.1 h2).1
 have hl3:=(Array.getElem?_eq_some_iff.1 h3).1
 refine xK (v:= .iface 25 (.agg [.int .i64 1,.int .i64 (ln:Nat),.int .i64 er].toArray)) Tryz.func31 rfl Tryz.ntmps31 rfl (fun c₀ cs hc=> .inl (by simp [recoverD,hc,fJ])) ?_
 refine p (Lu ue rfl) (p mv (p (xt rfl rfl) (p (xt rfl rfl) (e (al iP fun M ah hb2 E hB2=>e (bX fR rfl rfl rfl rfl (hB2) (by simp) fun q s U=> ?_))))))
 have Y:bD q.heap M [.int .i64 1,.int .i64 (ln:Nat),.int .i64 er]:=U
 refine p aj (nl (tn (sq (fun ag Z=>rg rfl (p mv (nl (tn (Z _ _ ?_))))))))
 refine ct (rfl) ?_
 have G:(fun w'=>Md (fun k=>k=a∨k=i) q w') q.drew:=(Md.refl _ _).drew
 refine bC (fun w'=>Md (fun k=>k=a∨k=i) q w') rfl wide G (hp 0 rfl (by kernel_rfl) (fun w' ab=>dx iX rfl (rfl) (fun j hj=>bD.c5 (Md.B ab Y (fun h=>by omega)) j)) G (he 1 rfl (by kernel_rfl) (ca sQ rfl rfl (v:= .pointer none) rfl (s.az (Wk.az E.md h2) (fun h=>by omega)) (by show 0 < 1; decide) fun w5 A V=> ?_)))
 have J:(fun w'=>Md (fun k=>k=a∨k=i) q w') w5:=G.trans' A (fun _ _ h=> .inl h)
 refine ⟨J,?_⟩
 refine he 2 rfl (by kernel_rfl) (fV fR rfl rfl rfl rfl (A.az (s.az (Wk.az E.md h3) (fun h=>by omega)) (fun h=>hne h.symm)) (by rw [aa]; decide) fun w6 C hB6=> ?_)
 have ac:(fun w'=>Md (fun k=>k=a∨k=i) q w') w6:=J.trans' C (fun _ _ h=> .inr h)
 refine ⟨ac,?_⟩
 refine hn (by kernel_rfl) (f0 rfl ?_)
 have ae:I.take 0 ++ [Value.int .i64 1,.int .i64 (ln:Nat),.int .i64 er]++I.drop (0 +3)= [Value.int .i64 1,.int .i64 (ln:Nat),.int .i64 er]:=by rw [List.drop_eq_nil_of_le (by omega)]; rfl
 rw [ae] at hB6
 exact ⟨C.az V hne,hB6,(((E.md.mono fun _ _ h=>h.elim).trans' s (fun k hk h=>by omega)).trans' (e6 A) (fun _ _ h=> .inl h)).trans' C (fun _ _ h=> .inr h)⟩
theorem AP (a i:Nat) (w:World):(invoke (.fn (.func 31) #[aG a,aG i]) #[]).run Tryz.prog w= .ok (.enter 31 #[aG a,aG i]) w:=by
 have h:=DV #[aG a,aG i] w
 simp [invoke,h]
theorem qf {n:Nat} {D:List Deferred} {G:List Nat} {σ:Nat→Value} {t:Nat} (h:t < n):ev ⟨n,D,G,none⟩ σ (.tmp t)=σ t:=by
 show cond (Nat.blt t n) (σ t) undef=_
 rw [show Nat.blt t n=true from by simpa using h]; rfl
theorem Ke {n:Nat} {G:List Nat} {fn:Func} {R:Value→World→Prop} {σ:Nat→Value} {w:World} {a i ln:Nat} {er:Int} (q:fn.results= #[.cell 2 22,.cell 3 25]) (hlt:3 < n) (s:σ 2= .pointer (some ⟨a,0,none⟩)) (A:σ 3= .pointer (some ⟨i,0,none⟩)) (h2:∃ v:Value,w.heap[a]? =some (.cells [v].toArray 22 (0,0))) (h3:∃ L:List Value,L.length=3∧w.heap[i]? =some (.cells L.toArray 25 (0,0))) (hne:a≠i)
 (p:∀ w',Md (fun k=>k=a∨k=i) w w'→R (.tuple #[.pointer none,.agg [.int .i64 1,.int .i64 (ln:Nat),.int .i64 er].toArray]) w'):qb ⟨n,[{target:= .fn (.func 31) #[.pointer (some ⟨a,0,none⟩),.pointer (some ⟨i,0,none⟩)],args:= #[]}],G,none⟩ (lu Tryz.prog fn R) (.panic (fJ 25 ln er)) σ w:=by
 refine Gx (AP a i w) (Ka a i ln er w h2 h3 hne) ?_
 rintro w' ⟨hc2,hc3,hm⟩
 exact ⟨_,q6 q (jG (uN ((qf (by omega)).trans s) eo ((aO hc2).trans rfl))) (jG (c8 (cs:= [.int .i64 1,.int .i64 (ln:Nat),.int .i64 er]) ((qf (by omega)).trans A) iX rfl (fun j _=>by rw [Nat.zero_add,aO hc3]; simp))),p w' hm⟩
theorem Kf {n:Nat} {G:List Nat} {fn:Func} {R:Value→World→Prop} {σ:Nat→Value} {w:World} {a i:Nat} {v:Value} {L:List Value} (s:fn.results= #[.cell 2 22,.cell 3 25]) (hlt:3 < n) (A:σ 2= .pointer (some ⟨a,0,none⟩)) (C:σ 3= .pointer (some ⟨i,0,none⟩)) (h2:w.heap[a]? =some (.cells [v].toArray 22 (0,0))) (h3:w.heap[i]? =some (.cells L.toArray 25 (0,0))) (p:L.length=3)
 (q:∀ w',Wk w w'→R (.tuple #[v,.agg L.toArray]) w'):qb ⟨n,[{target:= .fn (.func 31) #[.pointer (some ⟨a,0,none⟩),.pointer (some ⟨i,0,none⟩)],args:= #[]}],G,none⟩ (lu Tryz.prog fn R) .ret σ w:=by
 refine Gw (AP a i w) (Kb a i w) ?_
 intro w' hm
 have hc2:=Wk.az hm h2
 have hc3:=Wk.az hm h3
 exact ⟨_,q6 s (jG (uN ((qf (by omega)).trans A) eo ((aO hc2).trans rfl))) (jG (c8 (cs:=L) ((qf (by omega)).trans C) iX p (fun j _=>by rw [Nat.zero_add,aO hc3]; simp))),q w' hm⟩
end Go.Hb.vB
end
