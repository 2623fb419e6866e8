/-
  Walks and plain laws that the law rests on, laid together. No conditions but those that each theorem names.
-/
import Derived.Test.YtkiemnnhcilhpaaGreatDoorMnDicFinds5
set_option linter.unusedVariables false
section
set_option maxRecDepth 20000
set_option maxHeartbeats 1000000
namespace Go.Hb.o7
open Go.Hb.di
open Go.Proofs
open Go.Hb.gA Go.Hb.gW Go.Hb.lz
theorem LA {L:List Nat} (h:¬L.length≤64) (h2:L.length≤65) {M:List Nat} (h1:L=M.take 65) (x:Nat):L=(M++ [x]).take 65:=by
 have h3:=congrArg List.length h1
 rw [List.length_take] at h3
 rw [List.take_append_of_le_length (by omega),← h1]
theorem LB {L:List Nat} (h:L.length≤64) {M:List Nat} (h1:L=M.take 65) (x:Nat):L++ [x]=(M++ [x]).take 65:=by
 have h3:=congrArg List.length h1
 rw [List.length_take] at h3
 rw [List.take_of_length_le (by rw [List.length_append,List.length_singleton]; omega)]
 rw [List.take_of_length_le (by omega)] at h1; rw [h1]
theorem LV {l out:List Nat} {nx:Int} (h:lB l out nx) (j:nx < 65536):out.length≤65536:=by
 have h1:∀ x∈out,x < 65536:=fun x a=>by have :=((h.2 x).1 a).2; omega
 have h2:out.Nodup:=h.1.imp (fun i=>by omega)
 have h3:=List.Nodup.length_le_of_subset h2 (fun x a=>List.mem_range.2 (h1 x a))
 simpa using h3
theorem uO (b:UInt8) (w:World):
 aU Tryz.prog 140 (List.toArray [.int .u8 b.toNat]) w (fun v w'=>v= .bool (fD b)∧Wk w w'):=by
 refine enter Tryz.func140 rfl Tryz.ntmps140 rfl ?_
 refine U (fun _ i=>(ae (((i _ _ (U (fun _ a=>(ab (.int .u8 b.toNat) ?_))))))))
 refine p (ge rfl rfl) (p mv (gs (t:=5) rfl (fun hg5=> ?_) (fun hg5=> ?_)))
 refine pg rfl rfl rfl (aB (.int .u8 b.toNat) rfl) (pg rfl rfl rfl (le rfl rfl) (p (bf rfl) (p mv (gs (t:=9) rfl (fun hg9=> ?_) (fun hg9=> ?_)))))
 refine pg rfl rfl rfl (aB (.int .u8 b.toNat) rfl) (pg rfl rfl rfl (bP rfl rfl) (p (bf rfl) (p mv (gs (t:=13) rfl (fun hg13=> ?_) (fun hg13=> ?_)))))
 refine pg rfl rfl rfl (aB (.int .u8 b.toNat) rfl) (pg rfl rfl rfl (bP rfl rfl) (p (bf rfl) (p mv (gs (t:=17) rfl (fun j=> ?_) (fun j=> ?_)))))
 refine pg rfl rfl rfl (aB (.int .u8 b.toNat) rfl) (pg rfl rfl rfl (bP rfl rfl) (p (bf rfl) (ae (((a _ _ (rt (f1 rfl rfl ?_))))))))
 exact ⟨by show Value.bool (decide _)=_; rw [kA]; exact bv (by constructor <;> intro h <;> first | exact ⟨by omega,by omega,by omega,by omega,h⟩ | exact h.2.2.2.2),Md.refl _ _⟩
 refine sk rfl rfl rfl rfl (sk rfl rfl rfl rfl (p (a4 rfl) (ae (((a _ _ (rt (f1 rfl rfl ?_))))))))
 exact ⟨by show Value.bool false =_; rw [kA,decide_eq_false (by omega)],Md.refl _ _⟩
 refine sk rfl rfl rfl rfl (sk rfl rfl rfl rfl (p (a4 rfl) (p mv (sk rfl rfl rfl rfl (sk rfl rfl rfl rfl (p (a4 rfl) (p aj ?_)))))))
 exact ag ((a _ _ (rt (f1 rfl rfl (⟨by show Value.bool false =_; rw [kA,decide_eq_false (by omega)],Md.refl _ _⟩)))))
 refine sk rfl rfl rfl rfl (sk rfl rfl rfl rfl (p (a4 rfl) (p mv (sk rfl rfl rfl rfl (sk rfl rfl rfl rfl (p (a4 rfl) (p mv ?_)))))))
 refine sk rfl rfl rfl rfl (sk rfl rfl rfl rfl (p (a4 rfl) (ae (((a _ _ (rt (f1 rfl rfl ?_))))))))
 exact ⟨by show Value.bool false =_; rw [kA,decide_eq_false (by omega)],Md.refl _ _⟩
 refine sk rfl rfl rfl rfl (sk rfl rfl rfl rfl (p (a4 rfl) (p mv (sk rfl rfl rfl rfl (sk rfl rfl rfl rfl (p (a4 rfl) (p mv ?_)))))))
 refine sk rfl rfl rfl rfl (sk rfl rfl rfl rfl (p (a4 rfl) (p mv (sk rfl rfl rfl rfl (sk rfl rfl rfl rfl (p (a4 rfl) (p aj ?_)))))))
 exact ag ((a _ _ (rt (f1 rfl rfl (⟨by show Value.bool false =_; rw [kA,decide_eq_false (by omega)],Md.refl _ _⟩)))))
theorem B3 (kind:Nat) (s:List UInt8) (w:World) (hk:kind=1∨kind=2∨kind=3) (hs:s.length≤1048576):
 aU Tryz.prog 124 (List.toArray [aa kind,str s]) w (fun v w'=>v=bq (dm kind s)∧Wk w w'):=by
 refine enter Tryz.func124 rfl Tryz.ntmps124 rfl ?_
 refine U (fun _ Z=>(ae (((Z _ _ (sq (fun _ ah=>U (fun _ ai=> ?_))))))))
 refine ab (aa kind) (ag ((ai _ _ (az (U (fun _ ak=>(p (a8 rfl rfl) (p aj ?_))))))))
 refine ag ((ak _ _ (cd rfl (fun hc10=> ?_) (fun hc10=> ?_))))
 refine sq (fun _ J=>U (fun _ j=>(ab (str s) (p (bI u9 rfl rfl) (p (bP rfl rfl) (p mv (gs (t:=15) rfl (fun ar=> ?_) (fun ar=> ?_))))))))
 refine sk rfl rfl rfl rfl (sk rfl rfl rfl rfl (sk rfl rfl rfl rfl (sk rfl rfl rfl rfl (p (bf rfl) (ag ((j _ _ (ct rfl ?_))))))))
 refine U (fun _ i=>(ae (((i _ _ (rt (tr (br ?_))))))))
 exact tr (f1 rfl rfl (⟨by rw [nb (by omega) (fun h=>by omega) (fun h=>by omega)]; rfl,Md.refl _ _⟩))
 refine pg rfl rfl rfl (aB (str s) rfl) (pg rfl rfl rfl (fz 0 u9 rfl rfl (by omega)) (eg rfl rfl rfl (cl sg (uO (s.getD 0 0) _) rfl fun av w18 al=> ?_)))
 obtain ⟨rfl,V⟩:=al
 refine pg rfl rfl rfl (no rfl) (p (a4 rfl) (ag ((j _ _ (cb rfl (fun E=> ?_) (fun E=> ?_))))))
 refine U (fun _ i=>(ae (((i _ _ (rt (tr (br ?_))))))))
 exact tr (f1 rfl rfl (⟨by rw [nb (by omega) (fun h=>by rw [h.2.2] at E; cases E) (fun h=>by omega)]; rfl,V⟩))
 refine au (tn (J _ _ (U (fun _ i=>(ab (str s) (p (fz 0 u9 rfl rfl (by omega)) (p (ig u3 lj rfl (bp (by have :=UInt8.toNat_lt (s.getD 0 0); omega))) (p aj ?_))))))))
 exact ag ((i _ _ (rt (br (tr (f1 rfl rfl (⟨by rw [yU ⟨by omega,by omega,by simpa using E⟩]; rfl,V⟩)))))))
 refine U (fun _ J=>(p (a8 rfl rfl) (ae (((J _ _ (cd rfl (fun ap=> ?_) (fun ap=> ?_))))))))
 refine sq (fun _ j=>U (fun _ i=>(ab (str s) (p (bI u9 rfl rfl) (p (bP rfl rfl) (ag ((i _ _ ?_))))))))
 refine cd rfl (fun aq=> ?_) (fun aq=> ?_)
 refine U (fun _ A=>(ae (((A _ _ (rt (tr (br ?_))))))))
 exact tr (f1 rfl rfl (⟨by rw [nb (by omega) (fun h=>by omega) (fun h=>by omega)]; rfl,Md.refl _ _⟩))
 refine au (tn (j _ _ (U (fun _ A=>(ab (str s) (p (fz 0 u9 rfl rfl (by omega)) (e (cl sg (uO (s.getD 0 0) _) rfl fun aw w31 am=> ?_))))))))
 obtain ⟨rfl,hE31⟩:=am
 refine ae (((A _ _ (U (fun _ C=>(ab (str s) (p (fz 1 u9 rfl rfl (by omega)) (e (cl sg (uO (s.getD 1 0) _) rfl fun ax M an=> ?_)))))))))
 obtain ⟨rfl,hE34⟩:=an
 refine ae (((C _ _ (sq (fun _ ac=>U (fun _ O=>(p mv (p (no rfl) ?_))))))))
 refine p mv (gb (t:=37) rfl (fun I=> ?_) (fun I=> ?_))
 refine sk rfl rfl rfl rfl (sk rfl rfl rfl rfl (p (bf rfl) (ag ((O _ _ (ct rfl (U (fun _ q=> ?_))))))))
 refine ae (((q _ _ (rt (tr (br (tr (f1 rfl rfl ?_))))))))
 exact ⟨by rw [nb (by omega) (fun h=>by omega) (fun h=>by rw [h.2.2.1] at I; cases I)]; rfl,Md.trans hE31 hE34⟩
 refine pg rfl rfl rfl mv (pg rfl rfl rfl (no rfl) (p (a4 rfl) (ag ((O _ _ (cb rfl (fun G=> ?_) (fun G=> ?_)))))))
 refine U (fun _ q=>(ae (((q _ _ (rt (tr (br ?_))))))))
 exact tr (f1 rfl rfl (⟨by rw [nb (by omega) (fun h=>by omega) (fun h=>by rw [h.2.2.2] at G; cases G)]; rfl,Md.trans hE31 hE34⟩))
 refine au (tn (ac _ _ (sq (fun _ q=> ?_))))
 have g0:=UInt8.toNat_lt (s.getD 0 0)
 have g1:=UInt8.toNat_lt (s.getD 1 0)
 have a:(fun w'=>Wk M w') M.drew:=(Md.refl _ _).drew
 refine bC (fun w'=>Wk M w') rfl wide a (bo 0 rfl (str s) a (aA 1 rfl (fun _ _=>fz 0 u9 rfl rfl (by omega)) a (aA 2 rfl (fun _ _=>ig u3 lj rfl (bp (by have :=UInt8.toNat_lt (s.getD 0 0); omega))) a (aA 3 rfl (fun _ _=>kt ((256 *(s.getD 0 0).toNat:Nat):Int) rfl rfl (aQ (by omega) (by omega))) a (bo 4 rfl (str s) a (aA 5 rfl (fun _ _=>fz 1 u9 rfl rfl (by omega)) a (aA 6 rfl (fun _ _=>ig u3 lj rfl (bp (by have :=UInt8.toNat_lt (s.getD 1 0); omega))) a ?_)))))))
 refine aA 7 rfl (fun _ _=>a9 ((256 *(s.getD 0 0).toNat+(s.getD 1 0).toNat:Nat):Int) rfl rfl (aQ (by omega) (by omega))) a (aA 8 rfl (fun _ _=>aj) a (hn (by kernel_rfl) (tn (q _ _ (rt (br (tr (f1 rfl rfl ?_))))))))
 exact ⟨by rw [yV ⟨by omega,by omega,by simpa using I,by simpa using G⟩]; rfl,(Md.trans hE31 hE34).drew⟩
 refine au (bn (tn (ah _ _ (U (fun _ j=>(ab (str s) (e (cl mu (mM s 65535 _ hs (by decide)) rfl fun ay w51 ao=> ?_))))))))
 obtain ⟨rfl,hE51⟩:=ao
 have hn5:=Ap s
 refine p mv (p (xt rfl rfl) (p (xt rfl rfl) (p aj (ae (((j _ _ (sq (fun _ i=> ?_)))))))))
 refine U (fun _ A=>(p mv (p (bP rfl rfl) (ag ((A _ _ (cd rfl (fun Y=> ?_) (fun Y=> ?_))))))))
 refine U (fun _ C=>(ae (((C _ _ (rt (tr (f1 rfl rfl ?_))))))))
 exact ⟨by rw [td (by omega)]; unfold bq; exact iv (by have h1:=Y; unfold cH at*; split <;> first | rfl | (rename_i h2; rw [if_neg h2] at h1; exact absurd rfl h1)),hE51⟩
 refine au (tn (i _ _ (U (fun _ C=>(p mv (ae (((C _ _ ?_)))))))))
 exact rt (f1 rfl rfl (⟨by rw [td (by omega)]; rfl,hE51⟩))
theorem Ku (kind:Nat) (s:List UInt8) (w:World) (hk:kind=1∨kind=2∨kind=3) (hs:s.length≤1048576):
 aU Tryz.prog 106 (List.toArray [aa kind,str s]) w (fun v w'=>v= .tuple #[bq (eB kind s).1,aa ((eB kind s).2)]∧Wk w w'):=by
 refine enter Tryz.func106 rfl Tryz.ntmps106 rfl ?_
 refine U (fun _ j=>(p aj (ae (((j _ _ (sq (fun _ q=>sq (fun _ A=> ?_)))))))))
 refine rg rfl (ab (aa kind) (p (lt rfl rfl) (p mv (gs (t:=9) rfl (fun h=>absurd h (by omega)) (fun hg9=> ?_)))))
 refine pg rfl rfl rfl (aB (aa kind) rfl) (pg rfl rfl rfl (gt rfl rfl) (p (a4 rfl) (ag ((A _ _ (cd rfl (fun h=>absurd h (by omega)) (fun J=> ?_)))))))
 refine au (tn (q _ _ (U (fun _ C=>(ab (aa kind) (ab (str s) (e (cl xe (B3 kind s _ hk hs) rfl fun M w15 hR15=> ?_))))))))
 obtain ⟨rfl,i⟩:=hR15
 refine ae (((C _ _ (sq (fun _ E=>U (fun _ G=>(p mv (p (a8 rfl rfl) ?_))))))))
 refine ag ((G _ _ (cd rfl (fun I=> ?_) (fun I=> ?_))))
 refine U (fun _ a=>(p aj (ae (((a _ _ (rt (tr ?_))))))))
 exact f2 rfl rfl rfl (⟨by unfold eB; rw [if_pos (show dm kind s=0 by omega)]; rfl,i⟩)
 refine au (tn (E _ _ (U (fun _ a=>(p mv (p aj (p aj (nl ?_))))))))
 exact tn (a _ _ (rt (f2 rfl rfl rfl (⟨by unfold eB; rw [if_neg (show ¬dm kind s=0 by omega)]; rfl,i⟩))))
theorem JN (kind:Nat) (s:List UInt8) (w:World) (hk:kind=1∨kind=2∨kind=3) (hs:s.length≤1048576):
 aU Tryz.prog 127 (List.toArray [aa kind,str s]) w (fun v w'=>World.ownsRow w' w.heap.size 9 1 (v) ((b0 kind s)).length (((b0 kind s)).map str)∧Wk w w'):=by
 refine enter Tryz.func127 rfl Tryz.ntmps127 rfl ?_
 refine U (fun _ ay=>(ae (((ay _ _ (U (fun _ aA=>(p aj ?_))))))))
 refine ag ((aA _ _ (sq (fun _ aC=>U (fun _ aD=>(ab (aa kind) (p (a8 rfl rfl) (nl ?_))))))))
 refine tn (aD _ _ (cd rfl (fun aK=> ?_) (fun aK=> ?_)))
 refine U (fun _ ah=>(ae (((ah _ _ (sq (fun _ ai=>U (fun _ al=> ?_))))))))
 refine ae (((al _ _ (az (lp (fun O I wI=> ∃ (i q:Nat) (dn:List (List UInt8)) (a:Value),((i≤s.length∧q≤i∧dn.length≤i∧dn++dQ 44 ((s.take i).drop q) (s.drop i)=dQ 44 [] s)∨(i=s.length+1∧dn=dQ 44 [] s))∧(World.ownsRow wI w.heap.size 9 1 (a) (dn).length ((dn).map str))∧(Wk w wI)∧(I 0=aa kind)∧(I 1=str s)∧(I 5=a)∧(I 6=aa q)∧(I 7=aa i)∧(s.length+1 - i=O)) _ ⟨0,0,[],.slice none 0 0,(.inl ⟨by omega,by omega,by simp,rfl⟩),(World.ownsRow_nil _ _ _ _),(Md.refl _ _),rfl,rfl,rfl,rfl,rfl,rfl⟩ ?_)))))
 rintro O I wI ⟨i,q,dn,a,hi,A,E,aR,aS,aT,aV,aW,rfl⟩
 refine fx 0 aR (fx 1 aS (fx 5 aT (fx 6 aV (fx 7 aW (sq (fun _ am=>U (fun _ M=>(ab (aa i) (ab (str s) (p (bI u9 rfl rfl) (p (le rfl rfl) ?_)))))))))))
 refine ag ((M _ _ (cd rfl (fun hc15=> ?_) (fun hc15=> ?_))))
 refine au (tn (am _ _ (sq (fun _ C=>az (sq (fun _ Z=> ?_))))))
 obtain ⟨bh,bj,bi,hd⟩:=hi.resolve_right (fun h=>by omega)
 refine rg rfl (ab (aa i) (ab (str s) (p (bI u9 rfl rfl) (p (a8 rfl rfl) (p mv (gs (t:=22) rfl (fun aO=> ?_) (fun aO=> ?_)))))))
 have bC:dn++ [(s.take i).drop q]=dQ 44 [] s:=by rw [← hd,List.drop_eq_nil_of_le (show s.length≤i by omega),dQ]
 refine sk rfl rfl rfl rfl (sk rfl rfl rfl rfl (sk rfl rfl rfl rfl (sk rfl rfl rfl rfl (p (bf rfl) (ag ((Z _ _ (ct rfl ?_))))))))
 refine U (fun _ ac=>(ab (a) (ab (str s) (ab (aa q) (ab (aa i) (p (iN u9 rfl rfl rfl (by omega)) (e (ea dU rfl rfl fun aF w33 aJ G an=> ?_))))))))
 have V:Wk w w33:=Md.trans E G.md
 refine e (ap dU (aE A G.md) rfl (by have :=V.size; omega) rfl (ak.cQ an) (rfl) (rfl) (by omega) (by omega) fun aw ba av ao hz34 aN=> ?_)
 have hE34:=Wk.own V (aE A G.md) ao (Nat.le_refl _)
 have ho34x:=ji av
 refine ae (((ac _ _ (rg rfl (ab (aa i) (p (a9 ((i+1:Nat):Int) rfl rfl (aQ (by omega) (by omega))) (p aj (nl ?_))))))))
 refine bn (tn (C _ _ (rg rfl (ab (aa i) (p (a9 ((i+1:Nat):Int) rfl rfl (aQ (by omega) (by omega))) (p aj (nl (tn ?_))))))))
 exact ⟨_,by omega,i+1,i+1,dn++ [(s.take i).drop q],aw,(.inr ⟨by omega,bC⟩),ho34x,hE34,rfl,rfl,rfl,rfl,rfl,rfl⟩
 refine pg rfl rfl rfl (aB (str s) rfl) (pg rfl rfl rfl (aB (aa i) rfl) (pg rfl rfl rfl (dA u9 rfl rfl (by omega)) (pg rfl rfl rfl (a8 rfl rfl) (p (a4 rfl) (ag ((Z _ _ (cd rfl (fun ar=> ?_) (fun ar=> ?_)))))))))
 have bC:dn++ [(s.take i).drop q]++dQ 44 [] (s.drop (i+1))=dQ 44 [] s:=by rw [← hd,drop_cons 0 (show i < s.length by omega),dQ,if_pos (UInt8.toNat_inj.1 (by have bc:(44:UInt8).toNat=44:=rfl; omega)),List.append_assoc]; rfl
 refine U (fun _ ac=>(ab (a) (ab (str s) (ab (aa q) (ab (aa i) (p (iN u9 rfl rfl rfl (by omega)) (e (ea dU rfl rfl fun aF w33 aJ G an=> ?_))))))))
 have V:Wk w w33:=Md.trans E G.md
 refine e (ap dU (aE A G.md) rfl (by have :=V.size; omega) rfl (ak.cQ an) (rfl) (rfl) (by omega) (by omega) fun aw ba av ao hz34 aN=> ?_)
 have hE34:=Wk.own V (aE A G.md) ao (Nat.le_refl _)
 have ho34x:=ji av
 refine ae (((ac _ _ (rg rfl (ab (aa i) (p (a9 ((i+1:Nat):Int) rfl rfl (aQ (by omega) (by omega))) (p aj (nl ?_))))))))
 refine bn (tn (C _ _ (rg rfl (ab (aa i) (p (a9 ((i+1:Nat):Int) rfl rfl (aQ (by omega) (by omega))) (p aj (nl (tn ?_))))))))
 exact ⟨_,by omega,i+1,i+1,dn++ [(s.take i).drop q],aw,(.inl ⟨by omega,by omega,(by rw [List.length_append,List.length_singleton]; omega),(by rw [show (s.take (i+1)).drop (i+1)= [] from List.drop_eq_nil_of_le (by rw [List.length_take]; omega)]; exact bC)⟩),ho34x,hE34,rfl,rfl,rfl,rfl,rfl,rfl⟩
 have bC:dn++dQ 44 ((s.take (i+1)).drop q) (s.drop (i+1))=dQ 44 [] s:=by rw [← hd,drop_cons 0 (show i < s.length by omega),dQ,if_neg (fun h=>by rw [h] at ar; exact ar rfl),← oL 0 (by omega) (by omega)]
 refine au (bn (tn (C _ _ (rg rfl (ab (aa i) (p (a9 ((i+1:Nat):Int) rfl rfl (aQ (by omega) (by omega))) (p aj (nl ?_))))))))
 exact tn (⟨_,by omega,i+1,q,dn,a,(.inl ⟨by omega,by omega,by omega,bC⟩),A,E,rfl,rfl,rfl,rfl,rfl,rfl⟩)
 refine ext (te _ (te _ (be (tn (ai _ _ (U (fun _ C=>(ab (a) ?_))))))))
 refine p (bG (a) rfl) (ag ((C _ _ (rt (tr (f1 rfl rfl ?_))))))
 have hd2:dn=b0 kind s:=by unfold b0; rw [if_pos (by omega)]; rcases hi with h | h <;> first | omega | exact h.2
 exact ⟨by rw [← hd2]; exact A,E⟩
 refine au (tn (aC _ _ (sq (fun _ ah=>U (fun _ ai=>(ae (((ai _ _ ?_)))))))))
 refine az (lp (fun O Y wI=> ∃ (i:Nat) (dn:List (List UInt8)) (a:Value),(i≤s.length+kind∧dn.length≤i)∧(dn++chunks kind (s.drop i)=chunks kind s)∧(World.ownsRow wI w.heap.size 9 1 (a) (dn).length ((dn).map str))∧(Wk w wI)∧(Y 0=aa kind)∧(Y 1=str s)∧(Y 5=a)∧(Y 8=aa i)∧(s.length - i=O)) _ ⟨0,[],.slice none 0 0,((by simp)),rfl,(World.ownsRow_nil _ _ _ _),(Md.refl _ _),rfl,rfl,rfl,rfl,rfl⟩ ?_)
 rintro O Y wI ⟨i,dn,a,hi,hd,A,E,aX,aY,aZ,a0,rfl⟩
 refine fx 0 aX (fx 1 aY (fx 5 aZ (fx 8 a0 (sq (fun _ al=>U (fun _ am=>(ab (aa i) (ab (str s) (p (bI u9 rfl rfl) (p (lt rfl rfl) ?_))))))))))
 refine ag ((am _ _ (cd rfl (fun aL=> ?_) (fun aL=> ?_))))
 have hne:s.drop i≠[]:=fun h=>by have :=congrArg List.length h; rw [List.length_drop,List.length_nil] at this; omega
 refine au (tn (al _ _ (sq (fun _ M=>az (U (fun _ C=>(ab (aa i) (ab (aa kind) ?_))))))))
 refine p (a9 ((i+kind:Nat):Int) rfl rfl (aQ (by omega) (by omega))) (ae (((C _ _ ?_))))
 refine cX (fun J wC=> ∃ (j:Nat),(i≤j∧j≤s.length∧(s.take j).drop i=(s.drop i).take kind)∧(wC=wI)∧(J 0=aa kind)∧(J 1=str s)∧(J 5=a)∧(J 8=aa i)∧(J 9=aa j)) ?_ ?_
 refine U (fun _ Z=>(p mv (ab (str s) (p (bI u9 rfl rfl) (p (gt rfl rfl) (ag ((Z _ _ ?_))))))))
 refine cd rfl (fun aM=> ?_) (fun aM=> ?_)
 exact rg rfl (ab (str s) (p (bI u9 rfl rfl) (ae (((⟨s.length,((by refine ⟨by omega,by omega,?_⟩; rw [List.take_length,List.take_of_length_le (by rw [List.length_drop]; omega)])),rfl,rfl,rfl,rfl,rfl,rfl⟩))))))
 exact au (tn (⟨i+kind,((by refine ⟨by omega,by omega,?_⟩; rw [List.drop_take,Nat.add_sub_cancel_left])),rfl,rfl,rfl,rfl,rfl,rfl⟩))
 rintro J wC ⟨j,hj,aH,a1,a2,a3,a5,a6⟩
 refine fx 0 a1 (fx 1 a2 (fx 5 a3 (fx 8 a5 (fx 9 a6 ?_))))
 subst aH
 refine rg rfl (ab (a) (ab (str s) (ab (aa i) (ab (aa j) (p (iN u9 rfl rfl rfl (by omega)) (e (ea dU rfl rfl fun bb w59 bd aq aG=> ?_)))))))
 have ax:Wk w w59:=Md.trans E aq.md
 refine e (ap dU (aE A aq.md) rfl (by have :=ax.size; omega) rfl (ak.cQ aG) (rfl) (rfl) (by omega) (by omega) fun a7 w60 aP aI hz60 bg=> ?_)
 have hE60:=Wk.own ax (aE A aq.md) aI (Nat.le_refl _)
 have ho60x:=ji aP
 refine p aj (nl (bn (tn (M _ _ (rg rfl (ab (aa i) (ab (aa kind) (p (a9 ((i+kind:Nat):Int) rfl rfl (aQ (by omega) (by omega))) ?_))))))))
 exact ae (((⟨_,by omega,i+kind,dn++ [(s.drop i).take kind],a7,((by rw [List.length_append,List.length_singleton]; omega)),((by rw [← hd,pR (k:=kind) (by omega) hne,List.append_assoc,List.drop_drop]; rfl)),((by rw [← hj.2.2]; exact ho60x)),hE60,rfl,rfl,rfl,rfl,rfl⟩)))
 refine ext (te _ (te _ (be (tn (ah _ _ (U (fun _ M=>(ab (a) ?_))))))))
 refine p (bG (a) rfl) (ag ((M _ _ (rt (f1 rfl rfl ?_)))))
 have hd2:dn=b0 kind s:=by unfold b0; rw [if_neg (by omega),← hd,List.drop_eq_nil_of_le (by omega),pS,List.append_nil]
 exact ⟨by rw [← hd2]; exact A,E⟩
theorem Kt (l:List Nat) (a:Option Addr) (c:Nat) (w:World) (hC:ak w.heap a (l.map bq)) (hl:l.length≤1048576) (hlt:∀ x∈l,x < 65536):
 aU Tryz.prog 128 (List.toArray [.slice a l.length c]) w (fun v w'=>World.ownsRow w' w.heap.size 3 1 (v) ((gw l)).length (((gw l)).map bq)∧Wk w w'):=by
 refine enter Tryz.func128 rfl Tryz.ntmps128 rfl ?_
 refine U (fun _ ai=>(ae (((ai _ _ (U (fun _ al=>(p aj ?_))))))))
 refine ag ((al _ _ (U (fun _ am=>(ae (((am _ _ (az ?_)))))))))
 refine lp (fun G I wI=> ∃ (out:List Nat) (last:Int) (s:Value),(-1≤last∧last < 65536)∧(lB l out last)∧(World.ownsRow wI w.heap.size 3 1 (s) (out).length ((out).map bq))∧(Wk w wI)∧(out.length≤65536)∧(I 0= .slice a l.length c)∧(I 3=s)∧(I 4= .int .i64 last)∧((65536 - last).toNat=G)) _ ⟨[],-1,.slice none 0 0,((by decide)),(lB.nil l),(World.ownsRow_nil _ _ _ _),(Md.refl _ _),(Nat.zero_le _),rfl,rfl,rfl,rfl⟩ ?_
 rintro G I wI ⟨out,last,s,aW,ah,V,ax,aY,aH,aI,aK,rfl⟩
 refine fx 0 aH (fx 3 aI (fx 4 aK (az (U (fun _ an=>(ae (((an _ _ (sq (fun _ ao=> ?_)))))))))))
 refine U (fun _ aq=>(ae (((aq _ _ (az (lp (fun G C Y=> ∃ (i:Nat) (nx:Int),(i≤l.length∧ -1≤nx)∧(gX l last i nx)∧(Wk w Y)∧(Wk wI Y)∧(C 0= .slice a l.length c)∧(C 3=s)∧(C 4= .int .i64 last)∧(C 5= .int .i64 nx)∧(C 6=aa i)∧(l.length - i=G)) _ ⟨0,-1,((by omega)),(gX.nil l last),ax,(Md.refl _ _),rfl,rfl,rfl,rfl,rfl,rfl⟩ ?_)))))))
 rintro G C Y ⟨i,nx,hi,hnx,j,q,aL,aM,aN,aO,aP,rfl⟩
 refine fx 0 aL (fx 3 aM (fx 4 aN (fx 5 aO (fx 6 aP (sq (fun _ ar=>U (fun _ av=>(ab (aa i) (ab (.slice a l.length c) (p (ba u64 rfl rfl) (p (lt rfl rfl) ?_)))))))))))
 refine ag ((av _ _ (cd rfl (fun hc10=> ?_) (fun hc10=> ?_))))
 refine au (tn (ar _ _ (sq (fun _ A=>az (U (fun _ E=>(ab (.slice a l.length c) (ab (aa i) ?_))))))))
 refine p (aJ kn rfl rfl (by omega) (ak.ok (hC.wk j) (bl (by omega)))) (p (ld bQ rfl (qM (f:=bq) (i:=i) 0 (hC.wk j) (by omega))) (ab (.int .i64 last) (p (gt rfl rfl) (p mv (gs (t:=19) rfl (fun aC=> ?_) (fun aC=> ?_))))))
 refine pg rfl rfl rfl (aB (.int .i64 nx) rfl) (pg rfl rfl rfl (lt rfl rfl) (pg rfl rfl rfl mv (gs (t:=22) rfl (fun aD=> ?_) (fun aD=> ?_))))
 refine sk rfl rfl rfl rfl (sk rfl rfl rfl rfl (sk rfl rfl rfl rfl (sk rfl rfl rfl rfl (sk rfl rfl rfl rfl (sk rfl rfl rfl rfl (pg rfl rfl rfl (bf rfl) (p (bf rfl) ?_)))))))
 refine ag ((E _ _ (ct rfl (rg rfl (ab (.slice a l.length c) (ab (aa i) (p (aJ kn rfl rfl (by omega) (ak.ok (hC.wk j) (bl (by omega)))) (p (ld bQ rfl (qM (f:=bq) (i:=i) 0 (hC.wk j) (by omega))) ?_))))))))
 refine p aj (nl (bn (tn (A _ _ (rg rfl (ab (aa i) (p (a9 ((i+1:Nat):Int) rfl rfl (aQ (by omega) (by omega))) (p aj ?_))))))))
 exact ag ((⟨_,by omega,i+1,((l.getD i 0:Nat):Int),((by omega)),(hnx.take (by omega) (by omega) (.inl (by omega))),j,q,rfl,rfl,rfl,rfl,rfl,rfl⟩))
 refine pg rfl rfl rfl (aB (.slice a l.length c) rfl) (pg rfl rfl rfl (aB (aa i) rfl) (pg rfl rfl rfl (aJ kn rfl rfl (by omega) (ak.ok (hC.wk j) (bl (by omega)))) (pg rfl rfl rfl (ld bQ rfl (qM (f:=bq) (i:=i) 0 (hC.wk j) (by omega))) (pg rfl rfl rfl (aB (.int .i64 nx) rfl) (pg rfl rfl rfl (lt rfl rfl) (pg rfl rfl rfl (a4 rfl) (p (bf rfl) ?_)))))))
 refine ag ((E _ _ (cd rfl (fun aA=> ?_) (fun aA=> ?_))))
 refine rg rfl (ab (.slice a l.length c) (ab (aa i) (p (aJ kn rfl rfl (by omega) (ak.ok (hC.wk j) (bl (by omega)))) (p (ld bQ rfl (qM (f:=bq) (i:=i) 0 (hC.wk j) (by omega))) (p aj (nl (bn ?_)))))))
 exact tn (A _ _ (rg rfl (ab (aa i) (p (a9 ((i+1:Nat):Int) rfl rfl (aQ (by omega) (by omega))) (ae (((⟨_,by omega,i+1,((l.getD i 0:Nat):Int),((by omega)),(hnx.take (by omega) (by omega) (.inr (by omega))),j,q,rfl,rfl,rfl,rfl,rfl,rfl⟩))))))))
 refine au (bn (tn (A _ _ (rg rfl (ab (aa i) (p (a9 ((i+1:Nat):Int) rfl rfl (aQ (by omega) (by omega))) (p aj (nl ?_))))))))
 exact tn (⟨_,by omega,i+1,nx,((by omega)),(hnx.skip (.inr ⟨by omega,by omega⟩)),j,q,rfl,rfl,rfl,rfl,rfl,rfl⟩)
 refine sk rfl rfl rfl rfl (sk rfl rfl rfl rfl (sk rfl rfl rfl rfl (ek rfl rfl rfl (ek rfl rfl rfl (ek rfl rfl rfl (ek rfl rfl rfl (ek rfl rfl rfl ?_)))))))
 refine ek rfl rfl rfl (sk rfl rfl rfl rfl (p (a4 rfl) (ag ((E _ _ (cf rfl (au (bn ?_))))))))
 exact tn (A _ _ (rg rfl (ab (aa i) (p (a9 ((i+1:Nat):Int) rfl rfl (aQ (by omega) (by omega))) (ae (((⟨_,by omega,i+1,nx,((by omega)),(hnx.skip (.inl (by omega))),j,q,rfl,rfl,rfl,rfl,rfl,rfl⟩))))))))
 refine ext (te _ (te _ (be (tn (ao _ _ (sq (fun _ A=>U (fun _ E=> ?_))))))))
 refine ab (.int .i64 nx) (p (lt rfl rfl) (ag ((E _ _ (cd rfl (fun O=> ?_) (fun O=> ?_))))))
 refine U (fun _ J=>(ab (s) (p (bG (s) rfl) (ag ((J _ _ (rt (tr ?_))))))))
 refine br (tr (br (f1 rfl rfl ?_)))
 have hz:=gX.done (by rw [show i=l.length by omega] at hnx; exact hnx) ah O
 exact ⟨by rw [← hz]; exact aE V q,j⟩
 obtain ⟨m,hm,aF,aX,ac⟩:=gX.more (by rw [show i=l.length by omega] at hnx; exact hnx) ah O
 have hm4:=hlt m hm
 refine au (tn (A _ _ (U (fun _ J=>(ab (s) (ab (.int .i64 nx) (e (ea jK rfl rfl fun aS w40 aT M aw=> ?_))))))))
 have Z:Wk w w40:=Md.trans j M.md
 refine e (ap jK (aE (aE V q) M.md) rfl (by have :=Z.size; omega) rfl (ak.cQ aw) (rfl) (rfl) (by omega) (by omega) fun aR w41 aG ay aZ aV=> ?_)
 have hE41:=Wk.own Z (aE (aE V q) M.md) ay (Nat.le_refl _)
 refine ae (((J _ _ (rg rfl (ab (.int .i64 nx) (p (bG (.int .i64 nx) rfl) (nl (bn ?_))))))))
 exact tn (⟨_,by omega,out++ [m],nx,aR,((by omega)),ac,((by rw [List.length_append,List.map_append]; subst aF; exact aG)),hE41,((LV ac (by omega))),rfl,rfl,rfl,rfl⟩)
theorem AZ (kind:Nat) (s:List UInt8) (w:World) (hk:kind=1∨kind=2∨kind=3) (hs:s.length≤1048576):
 aU Tryz.prog 109 (List.toArray [aa kind,str s]) w (fun v w'=>(∃ a,v= .tuple #[a,aa ((cU kind s).2)]∧World.ownsRow w' w.heap.size 3 1 (a) ((cU kind s).1).length (((cU kind s).1).map bq))∧Wk w w'):=by
 refine enter Tryz.func109 rfl Tryz.ntmps109 rfl ?_
 refine U (fun _ av=>(p aj (ae (((av _ _ (sq (fun _ aA=>sq (fun _ aC=> ?_)))))))))
 refine rg rfl (ab (aa kind) (p (lt rfl rfl) (p mv (gs (t:=12) rfl (fun h=>absurd h (by omega)) (fun hg12=> ?_)))))
 refine pg rfl rfl rfl (aB (aa kind) rfl) (pg rfl rfl rfl (gt rfl rfl) (p (a4 rfl) (ag ((aC _ _ (cd rfl (fun h=>absurd h (by omega)) (fun hc15=> ?_)))))))
 refine au (tn (aA _ _ (sq (fun _ aD=>U (fun _ aF=>(ab (str s) (p (bI u9 rfl rfl) (p (a8 rfl rfl) ?_))))))))
 refine ag ((aF _ _ (cd rfl (fun hc18=> ?_) (fun hc18=> ?_))))
 refine U (fun _ ai=>(p aj (ae (((ai _ _ (rt (tr ?_))))))))
 refine f2 rfl rfl rfl ?_
 have hs0:s= []:=List.eq_nil_of_length_eq_zero (by omega)
 exact ⟨⟨.slice none 0 0,by unfold cU; rw [if_pos hs0]; rfl,by unfold cU; rw [if_pos hs0]; exact World.ownsRow_nil _ _ _ _⟩,Md.refl _ _⟩
 refine au (tn (aD _ _ (U (fun _ ai=>(ae (((ai _ _ (sq (fun _ aG=> ?_))))))))))
 refine rg rfl (ab (aa kind) (ab (str s) (e (cl Dn (JN kind s _ hk hs) rfl fun bc w21 aN=> ?_))))
 obtain ⟨ao,hE21⟩:=aN
 obtain ⟨V,Y,rfl⟩:=bU ao
 have hS21:=(aI ao).2
 have hpl:=AK (kind:=kind) (s:=s) (by omega)
 refine ae (((aG _ _ (sq (fun _ aH=>U (fun _ aK=>(p aj (nl ?_))))))))
 refine tn (aK _ _ (az (lp (fun an I wI=> ∃ (i:Nat) (j:List Nat) (al:Value),(i≤(b0 kind s).length∧j.length≤65)∧(¬∃ x∈(b0 kind s).take i,dm kind x=0)∧(j=(((b0 kind s).take i).map (dm kind)).take 65)∧(World.ownsRow wI w21.heap.size 3 1 (al) (j).length ((j).map bq))∧(Wk w21 wI)∧(I 0=aa kind)∧(I 1=str s)∧(I 6=al)∧(I 7= .slice V (b0 kind s).length Y)∧(I 8=aa i)∧((b0 kind s).length - i=an)) _ ⟨0,[],.slice none 0 0,((by simp)),((by rintro ⟨x,Z,_⟩; simp at Z)),rfl,(World.ownsRow_nil _ _ _ _),(Md.refl _ _),rfl,rfl,rfl,rfl,rfl,rfl⟩ ?_)))
 rintro an I wI ⟨i,j,al,hi,hne,M,G,q,aY,aZ,a0,a1,a2,rfl⟩
 refine fx 0 aY (fx 1 aZ (fx 6 a0 (fx 7 a1 (fx 8 a2 (sq (fun _ aw=>U (fun _ ax=>(ab (aa i) (ab (.slice V (b0 kind s).length Y) (p (ba c9 rfl rfl) (p (lt rfl rfl) ?_)))))))))))
 refine ag ((ax _ _ (cd rfl (fun aR=> ?_) (fun aR=> ?_))))
 refine au (tn (aw _ _ (sq (fun _ O=>az (sq (fun _ ac=> ?_))))))
 obtain ⟨A,C,rfl⟩:=bU G
 refine rg rfl (ab (aa kind) (ab (.slice V (b0 kind s).length Y) (ab (aa i) (p (aJ bA rfl rfl (by omega) (ak.ok (hS21.wk q) (bl (by omega)))) (p (ld bw rfl (bh.get (i:=i) (hS21.wk q) (by omega))) (e (cl xe (B3 kind ((b0 kind s).getD i []) _ hk (by have :=AL (kind:=kind) (by omega) (qB (d:= []) (show i < (b0 kind s).length by omega)); omega)) rfl fun bd w33 aO=> ?_)))))))
 obtain ⟨rfl,E⟩:=aO
 refine ae (((ac _ _ (sq (fun _ J=>U (fun _ ay=>(p mv (p (a8 rfl rfl) ?_))))))))
 refine ag ((ay _ _ (cd rfl (fun aS=> ?_) (fun aS=> ?_))))
 refine U (fun _ ah=>(p aj (ae (((ah _ _ (rt (tr ?_))))))))
 refine br (tr (tr (br (tr (f2 rfl rfl rfl ?_)))))
 have hz:cU kind s=([],31):=by unfold cU; rw [if_neg (fun h=>by rw [h] at hc18; exact hc18 rfl),if_pos ⟨_,qB (d:= []) (show i < (b0 kind s).length by omega),by omega⟩]
 exact ⟨⟨.slice none 0 0,by rw [hz]; rfl,by rw [hz]; exact World.ownsRow_nil _ _ _ _⟩,Md.trans hE21 (Md.trans q E)⟩
 refine au (tn (J _ _ (U (fun _ ah=>(ab (.slice A j.length C) (p (ba u64 rfl rfl) (p (le rfl rfl) (nl ?_))))))))
 refine tn (ah _ _ (cd rfl (fun aT=> ?_) (fun aT=> ?_)))
 refine rg rfl (ab (.slice A j.length C) (p mv (e (ea jK rfl rfl fun a6 w41 hb41 am aL=> ?_))))
 have hE41:Wk w21 w41:=Md.trans (Md.trans q E) am.md
 refine e (ap jK (aE (aE G E) am.md) rfl (by have :=hE41.size; omega) rfl (ak.cQ aL) (rfl) (rfl) (by omega) (by omega) fun ar w42 aW aM bb a7=> ?_)
 have hE42:=Wk.own hE41 (aE (aE G E) am.md) aM (Nat.le_refl _)
 have aX:World.ownsRow w42 w21.heap.size 3 1 (ar) ((j++ [dm kind ((b0 kind s).getD i [])])).length (((j++ [dm kind ((b0 kind s).getD i [])])).map bq):=by
  rw [List.length_append,List.map_append]; exact aW
 refine p aj (nl (bn (tn (O _ _ (rg rfl (ab (aa i) (p (a9 ((i+1:Nat):Int) rfl rfl (aQ (by omega) (by omega))) (p aj ?_))))))))
 exact ag ((⟨_,by omega,i+1,j++ [dm kind ((b0 kind s).getD i [])],ar,((by rw [List.length_append,List.length_singleton]; omega)),(s7 (by omega) hne (by omega)),((by rw [ef _ i [] (by omega),List.map_append]; exact LB (by omega) M _)),aX,hE42,rfl,rfl,rfl,rfl,rfl,rfl⟩))
 refine au (bn (tn (O _ _ (rg rfl (ab (aa i) (p (a9 ((i+1:Nat):Int) rfl rfl (aQ (by omega) (by omega))) (p aj (nl ?_))))))))
 exact tn (⟨_,by omega,i+1,j,.slice A j.length C,(by omega),(s7 (by omega) hne (by omega)),((by rw [ef _ i [] (by omega),List.map_append]; exact LA (by omega) (by omega) M _)),(aE G E),(Md.trans q E),rfl,rfl,rfl,rfl,rfl,rfl⟩)
 refine ext (te _ (te _ (be (tn (aH _ _ (sq (fun _ O=>sq (fun _ ac=> ?_))))))))
 obtain ⟨A,C,rfl⟩:=bU G
 have a3:(b0 kind s).take i=(b0 kind s):=List.take_of_length_le (by omega)
 rw [a3] at M hne
 refine rg rfl (ab (.slice V (b0 kind s).length Y) (p (ba c9 rfl rfl) (p (gt rfl rfl) (ag ((ac _ _ (cd rfl (fun aV=> ?_) (fun aV=> ?_))))))))
 refine U (fun _ J=>(p aj (ae (((J _ _ (rt (tr ?_))))))))
 refine f2 rfl rfl rfl ?_
 have hz:cU kind s=([],32):=by unfold cU; rw [if_neg (fun h=>by rw [h] at hc18; exact hc18 rfl),if_neg hne,if_pos (by omega)]
 exact ⟨⟨.slice none 0 0,by rw [hz]; rfl,by rw [hz]; exact World.ownsRow_nil _ _ _ _⟩,Md.trans hE21 q⟩
 refine au (tn (O _ _ (U (fun _ J=>(ab (.slice A j.length C) (e (cl Dp (Kt j A C _ (aI G).2 (by omega) (fun x Z=>by rw [M] at Z; obtain ⟨y,_,rfl⟩:=List.mem_map.1 (List.mem_of_mem_take Z); exact yT _ _)) rfl fun a5 bf aP=> ?_)))))))
 obtain ⟨aq,hE47⟩:=aP
 refine p aj (ae (((J _ _ (rt (f2 rfl rfl rfl ?_))))))
 have hz:cU kind s=(gw ((b0 kind s).map (dm kind)),0):=by unfold cU; rw [if_neg (fun h=>by rw [h] at hc18; exact hc18 rfl),if_neg hne,if_neg (by omega)]
 rw [M,List.take_of_length_le (by rw [List.length_map]; omega)] at aq
 exact ⟨⟨a5,by rw [hz]; rfl,by rw [hz]; exact fZ aq (by have :=hE21.size; have :=q.size; omega)⟩,Md.trans hE21 (Md.trans q hE47)⟩
end Go.Hb.o7
end
section
set_option maxRecDepth 20000
set_option maxHeartbeats 1000000
namespace Go.Hb.o6
open Go.Hb.di
open Go.Proofs
open Go.Hb.fQ Go.Hb.kN Go.Hb.lx
theorem H5 {l:List UInt8} {i:Nat} {x:UInt8} (h:i < l.length) (h1:¬x∈l.take i) (h2:¬((l.getD i 0).toNat:Int)=(x.toNat:Int)):¬x∈l.take (i+1):=by
 rw [ef l i 0 h,List.mem_append,List.mem_singleton]
 rintro (h3 | h3)
 · exact h1 h3
 · exact h2 (by rw [h3])
theorem H4 {l:List UInt8} {i:Nat} {x:UInt8} (h:i < l.length) (h2:((l.getD i 0).toNat:Int)=(x.toNat:Int)):x∈l:=by
 have e:l.getD i 0=x:=UInt8.toNat_inj.1 (by omega)
 rw [← e]; exact c6 h
def kS (s:List UInt8) (i:Nat):Int:=if dC 93 (s.drop i) < 0 then -1 else ((i+(s.drop i).idxOf 93:Nat):Int)
theorem EZ {s:List UInt8} {i k:Nat} (hk:i≤k∧k < s.length) (a:∀ j,i≤j→j < k→s.getD j 0≠93) (p:s.getD k 0=93):kS s i=(k:Nat):=by
 have h:=zX (x:=93) (l:=s.drop i) (i:=k - i) (by rw [List.length_drop]; omega) (fun j hj=>by rw [List.getD_eq_getElem?_getD,List.getElem?_drop,← List.getD_eq_getElem?_getD]; exact a _ (by omega) (by omega)) (by rw [List.getD_eq_getElem?_getD,List.getElem?_drop,← List.getD_eq_getElem?_getD,show i+(k - i)=k by omega]; exact p)
 have h2:=mF (c:=93) (l:=s.drop i) (by omega)
 unfold kS
 rw [if_neg (by omega)]
 omega
theorem E0 {s:List UInt8} {i:Nat} (a:∀ j,i≤j→j < s.length→s.getD j 0≠93):kS s i= -1:=by
 have h:=zY (x:=93) (l:=s.drop i) (fun j hj=>by rw [List.length_drop] at hj; rw [List.getD_eq_getElem?_getD,List.getElem?_drop,← List.getD_eq_getElem?_getD]; exact a _ (by omega) (by omega))
 unfold kS
 rw [if_pos (by omega)]
theorem EY {s:List UInt8} {i:Nat} (hi:i < s.length) (hb:s.getD i 0=91):(kS s i < 0↔¬(s.drop (i+1)).idxOf 93 < (s.drop (i+1)).length)∧(¬kS s i < 0→kS s i=((i+1 +(s.drop (i+1)).idxOf 93:Nat):Int)):=by
 have e:s.drop i=91::s.drop (i+1):=by rw [drop_cons 0 hi,hb]
 have a:(91::s.drop (i+1)).idxOf 93=(s.drop (i+1)).idxOf 93 +1:=by rw [List.idxOf_cons]; rfl
 unfold kS dC
 rw [e,a,List.length_cons]
 by_cases h:(s.drop (i+1)).idxOf 93 < (s.drop (i+1)).length
 · rw [if_pos (show (s.drop (i+1)).idxOf 93 +1 < (s.drop (i+1)).length+1 by omega)]
   rw [if_neg (by omega)]
   refine ⟨⟨fun h1=>by omega,fun h1=>absurd h h1⟩,fun _=>by omega⟩
 · rw [if_neg (show ¬(s.drop (i+1)).idxOf 93 +1 < (s.drop (i+1)).length+1 by omega)]
   rw [if_pos (show (-1:Int) < 0 from by decide)]
   refine ⟨⟨fun _=>h,fun _=>by decide⟩,fun h1=>absurd (by decide) h1⟩
theorem JF {w:World} {B e:Nat} {v:Value} {l:List (List UInt8)} {x:List UInt8} (h:w.ownsRow B e 1 v (l.length+1) (l.map str++ [str x])):w.ownsRow B e 1 v (l++ [x]).length ((l++ [x]).map str):=by
 rw [List.length_append,List.map_append]; exact h
theorem C5 {f:UInt8→Bool} :(bytesOf (fun x=> !f x)).length=0↔(bytesOf f).length=256:=by
 have :=C6 f 256
 unfold bytesOf; omega
theorem IZ {h:Array Obj} {a:Option Addr} {l:List (List UInt8)} {i:Nat} (hc:ak h a (l.map str)) (hi:i < l.length):Hb.aC h (bk a) (fo a+i*1 +0)=some (str (l.getD i [])):=bh.get (i:=i) hc hi
theorem ED {s t r:List UInt8} (h:eU s=some (t,r)):(t.length=1∨3≤t.length)∧t.length≤s.length:=by
 cases s with
 | nil=>cases h
 | cons b l=>
   simp only [eU] at h
   split at h
   · split at h
     · rename_i hc
       simp only [Option.some.injEq,Prod.mk.injEq] at h
       obtain ⟨rfl,_⟩:=h
       simp only [List.length_cons,List.length_take]
       omega
     · cases h
   · simp only [Option.some.injEq,Prod.mk.injEq] at h
     obtain ⟨rfl,_⟩:=h
     simp
theorem Fq:∀ (f:Nat) (s:List UInt8) (xs:List (List UInt8)),iJ f s=some xs→∀ t∈xs,(t.length=1∨3≤t.length)∧t.length≤s.length:=by
 intro f
 induction f with
 | zero=>intro s xs h t a; simp only [iJ] at h; split at h <;> first | (cases h; cases a) | cases h
 | succ f ih=>
   intro s xs h t a
   simp only [iJ] at h
   split at h
   · cases h; cases a
   · cases hc:eU s with
     | none=>rw [hc] at h; cases h
     | some q=>
       obtain ⟨u,r⟩:=q
       rw [hc] at h
       simp only at h
       cases hr:iJ f r with
       | none=>rw [hr] at h; cases h
       | some i=>
         rw [hr] at h
         cases h
         rcases List.mem_cons.1 a with rfl | a
         · exact ED hc
         · have h1:=ih r i hr t a
           have h2:=sH hc
           exact ⟨h1.1,by omega⟩
theorem Fi {s:List UInt8} :(∀ t∈(cA s).1,(t.length=1∨3≤t.length)∧t.length≤s.length)∧(cA s).1.length≤16:=by
 unfold cA
 split
 · exact ⟨(fun t a=>by cases a),Nat.zero_le _⟩
 · split
   · exact ⟨(fun t a=>by cases a),Nat.zero_le _⟩
   · split
     · exact ⟨(fun t a=>by cases a),Nat.zero_le _⟩
     · rename_i xs h
       split
       · exact ⟨(fun t a=>by cases a),Nat.zero_le _⟩
       · exact ⟨(fun t a=>Fq _ _ _ h t a),by simp only; omega⟩
theorem yq {s:List UInt8} {k:Nat} :(s.drop k).getD 0 0=s.getD k 0:=by rw [List.getD_eq_getElem?_getD,List.getElem?_drop,← List.getD_eq_getElem?_getD]; rfl
theorem wH {s:List UInt8} {i m:Nat} (hb:s.getD i 0=91) (h:i+1 +m < s.length):91::(s.drop (i+1)).take (m+1)=(s.take (i+1 +m+1)).drop i:=by
 rw [List.drop_take,drop_cons 0 (show i < s.length by omega),hb,show i+1 +m+1 - i=m+1 +1 by omega,List.take_succ_cons]
theorem Jw {s:List UInt8} {i:Nat} (h:i < s.length):(s.take (i+1)).drop i= [s.getD i 0]:=by
 rw [List.drop_take,drop_cons 0 h,show i+1 - i=0 +1 by omega,List.take_succ_cons,List.take_zero]
theorem Cx {t:List UInt8} {b:UInt8} (h:t.length=1) (h1:¬t= [46]):((t.getD 0 0).toNat:Int)=(b.toNat:Int)↔t.getD 0 0=46∨t.getD 0 0=b:=by
 match t,h with
 | [c],_=>
   simp only [List.getD_cons_zero] at*
   constructor
   · intro h2; exact .inr (UInt8.toNat_inj.1 (by omega))
   · rintro (h2 | h2)
     · exact absurd (by rw [h2]) h1
     · rw [h2]
theorem zV {b:UInt8} (h:(b.toNat:Int)=94):b=94:=UInt8.toNat_inj.1 (by have :(94:UInt8).toNat=94:=rfl; omega)
theorem Js {b:UInt8} (h:¬(b.toNat:Int)=94):b≠94:=by rintro rfl; exact h rfl
theorem AA {l:List UInt8} {x:UInt8} (h:l.length=1) (a:l.getD 0 0=x):l= [x]:=by
 match l,h with
 | [c],_=>simp only [List.getD_cons_zero] at a; rw [a]
theorem KO {f:UInt8→Bool} (h:¬(bytesOf f).length=256) (h1:(bytesOf f).length=1) (h2:(bytesOf f).getD 0 0=46):eO f= [91,46,93]:=by
 have e:=AA h1 h2
 have h3:¬f 93=true :=fun h4=>by have :=(wS f 93).2 h4; rw [e] at this; simp at this
 unfold eO; rw [if_neg h,if_neg (fun h4=>h4.2.1 h2),if_neg h3,e]; rfl
theorem KP {f:UInt8→Bool} (h:¬(bytesOf f).length=256) (h1:(bytesOf f).length=1) (h2:(bytesOf f).getD 0 0=91):eO f= [91,91,93]:=by
 have e:=AA h1 h2
 have h3:¬f 93=true :=fun h4=>by have :=(wS f 93).2 h4; rw [e] at this; simp at this
 unfold eO; rw [if_neg h,if_neg (fun h4=>h4.2.2 h2),if_neg h3,e]; rfl
theorem z9 (s:List UInt8) (b:UInt8) (w:World) (hs:s.length≤1048576):
 aU Tryz.prog 187 (List.toArray [str s,.int .u8 b.toNat]) w (fun v w'=>v= .bool (decide (b∈s))∧Wk w w'):=by
 refine enter Tryz.func187 rfl Tryz.ntmps187 rfl ?_
 refine U (fun _ E=>(ae (((E _ _ (sq (fun _ G=>U (fun _ I=> ?_))))))))
 refine ae (((I _ _ (az (lp (fun C a wI=> ∃ (i:Nat),(i≤s.length)∧(¬b∈s.take i)∧(wI=w)∧(a 0=str s)∧(a 1= .int .u8 b.toNat)∧(a 5=aa i)∧(s.length - i=C)) _ ⟨0,(by omega),((by simp)),rfl,rfl,rfl,rfl,rfl⟩ ?_)))))
 rintro C a wI ⟨i,hi,A,Y,ac,ah,ai,rfl⟩
 refine fx 0 ac (fx 1 ah (fx 5 ai ?_))
 subst Y
 refine sq (fun _ J=>U (fun _ M=>(ab (aa i) (ab (str s) (p (bI u9 rfl rfl) (p (lt rfl rfl) (nl ?_)))))))
 refine tn (M _ _ (cd rfl (fun Z=> ?_) (fun Z=> ?_)))
 refine au (tn (J _ _ (sq (fun _ j=>az (U (fun _ O=>(ab (str s) (ab (aa i) ?_))))))))
 refine p (dA u9 rfl rfl (by omega)) (ab (.int .u8 b.toNat) (p (a8 rfl rfl) (ag ((O _ _ (cd rfl (fun q=> ?_) (fun q=> ?_)))))))
 refine U (fun _ V=>(ae (((V _ _ (rt (br (tr ?_))))))))
 exact tr (br (tr (f1 rfl rfl (⟨by show Value.bool true =_; rw [decide_eq_true (H4 (by omega) q)],Md.refl _ _⟩))))
 refine au (bn (tn (j _ _ (rg rfl (ab (aa i) (p (ad rfl rfl (bp (by omega))) (p aj (nl ?_))))))))
 exact tn (⟨_,by omega,i+1,(by omega),(H5 (by omega) A q),rfl,rfl,rfl,rfl,rfl⟩)
 refine ext (te _ (te _ (be (tn (G _ _ (U (fun _ j=>(p aj ?_))))))))
 exact ag ((j _ _ (rt (f1 rfl rfl (⟨by show Value.bool false =_; rw [List.take_of_length_le (by omega)] at A; rw [decide_eq_false A],Md.refl _ _⟩)))))
theorem Cy (t:List UInt8) (b:UInt8) (w:World) (aa:t.length=1∨3≤t.length) (htl:t.length≤1048576):
 aU Tryz.prog 182 (List.toArray [.agg [str t].toArray,.int .u8 b.toNat]) w (fun v w'=>v= .bool (bF t b)∧Wk w w'):=by
 refine enter Tryz.func182 rfl Tryz.ntmps182 rfl ?_
 refine U (fun _ A=>(e (jo rfl fun Z ai hb2 i hB2=>ae (((A _ _ (U (fun _ C=> ?_))))))))
 refine p (fa G0 rfl) (p (ld bw rfl (hB2.aC 0)) (ae (((C _ _ (sq (fun _ E=>U (fun _ G=> ?_))))))))
 refine p mv (p (bI u9 rfl rfl) (p (a8 rfl rfl) (ag ((G _ _ (cd rfl (fun Y=> ?_) (fun Y=> ?_)))))))
 refine U (fun _ a=>(p mv (p (cG rfl rfl) (p mv (gs (t:=14) rfl (fun s=> ?_) (fun s=> ?_))))))
 refine sk rfl rfl rfl rfl (sk rfl rfl rfl rfl (sk rfl rfl rfl rfl (sk rfl rfl rfl rfl (p (bf rfl) (ae (((a _ _ ?_))))))))
 exact rt (tr (f1 rfl rfl (⟨by show Value.bool true =_; unfold bF; rw [if_pos (show t.length=1 by omega)]; rw [decide_eq_true (.inl (by rw [s]; rfl))],i.md⟩)))
 refine pg rfl rfl rfl mv (pg rfl rfl rfl (fz 0 u9 rfl rfl (by omega)) (pg rfl rfl rfl (aB (.int .u8 b.toNat) rfl) (pg rfl rfl rfl (a8 rfl rfl) (p (a4 rfl) (ae (((a _ _ ?_))))))))
 exact rt (tr (f1 rfl rfl (⟨by show Value.bool (decide _)=_; unfold bF; rw [if_pos (show t.length=1 by omega)]; exact congrArg Value.bool (decide_eq_decide.2 (Cx (by omega) s)),i.md⟩)))
 refine au (tn (E _ _ (sq (fun _ a=>U (fun _ I=>(p mv (p (fz 1 u9 rfl rfl (by omega)) (p (a8 rfl rfl) ?_))))))))
 refine ag ((I _ _ (cd rfl (fun q=> ?_) (fun q=> ?_))))
 refine U (fun _ j=>(p mv (p mv (p (bI u9 rfl rfl) (p (cI ((t.length - 1:Nat):Int) rfl rfl (aQ (by omega) (by omega))) (p (iN u9 rfl rfl rfl (by omega)) (ab (.int .u8 b.toNat) ?_)))))))
 refine e (cl xv (z9 ((t.take (t.length - 1)).drop 2) b _ (by simp only [List.length_drop,List.length_take]; omega)) rfl fun ac w29 O=> ?_)
 obtain ⟨rfl,hE29⟩:=O
 refine ae (((j _ _ (U (fun _ J=>(p mv (p (no rfl) (p aj ?_))))))))
 exact ag ((J _ _ (rt (tr (f1 rfl rfl (⟨by show Value.bool (!decide _)=_; unfold bF; rw [if_neg (show ¬t.length=1 by omega),if_pos (UInt8.toNat_inj.1 (by have h94:(94:UInt8).toNat=94:=rfl; omega))],Md.trans i.md hE29⟩))))))
 refine au (tn (a _ _ (U (fun _ j=>(p mv (p mv (p (bI u9 rfl rfl) (p (cI ((t.length - 1:Nat):Int) rfl rfl (aQ (by omega) (by omega))) ?_))))))))
 refine p (iN u9 rfl rfl rfl (by omega)) (ab (.int .u8 b.toNat) (e (cl xv (z9 ((t.take (t.length - 1)).drop 1) b _ (by simp only [List.length_drop,List.length_take]; omega)) rfl fun ah w38 V=> ?_)))
 obtain ⟨rfl,M⟩:=V
 exact ae (((j _ _ (rt (f1 rfl rfl (⟨by unfold bF; rw [if_neg (show ¬t.length=1 by omega),if_neg (fun h=>by rw [h] at q; exact q rfl)]; rfl,Md.trans i.md M⟩))))))
theorem vO (t:List UInt8) (b:UInt8) (bi:Int) (w:World) (i:t.length=1∨3≤t.length) (htl:t.length≤1048576) (a:(b.toNat:Int)=bi):aU Tryz.prog 182 (List.toArray [.agg [str t].toArray,.int .u8 bi]) w (fun v w'=>v= .bool (bF t b)∧Wk w w'):=by
 subst a; exact Cy t b w i htl
theorem vP (t:List UInt8) (q:Bool) (w:World) (aI:t.length=1∨3≤t.length) (htl:t.length≤1048576):
 aU Tryz.prog 181 (List.toArray [.agg [str t].toArray,.bool q]) w (fun v w'=>World.ownsRow w' w.heap.size 5 1 (v) ((bytesOf (fun x=>decide (bF t x=q)))).length (U8 ((bytesOf (fun x=>decide (bF t x=q)))))∧Wk w w'):=by
 refine enter Tryz.func181 rfl Tryz.ntmps181 rfl ?_
 refine U (fun _ Z=>(e (jo rfl fun aq I hb2 V hB2=>ae (((Z _ _ (U (fun _ ac=> ?_))))))))
 refine e (iY eQ fun b8 w8 hb8 ax av=> ?_)
 have aA:World.ownsRow w8 I.heap.size 5 1 (.slice (some ⟨b8,0,none⟩) 0 0) (([]:List UInt8)).length (U8 (([]:List UInt8))):=av _ (by omega)
 refine ae (((ac _ _ (sq (fun _ ah=>U (fun _ ai=>(p aj (nl ?_))))))))
 refine tn (ai _ _ (az (lp (fun O A wI=> ∃ (i:Nat) (a:Value),(i≤256)∧(World.ownsRow wI I.heap.size 5 1 (a) ((iG (fun x=>decide (bF t x=q)) i)).length (U8 ((iG (fun x=>decide (bF t x=q)) i))))∧(Wk I wI)∧(A 1= .bool q)∧(A 2=aG aq)∧(A 5=a)∧(A 6=aa i)∧(256 - i=O)) _ ⟨0,.slice (some ⟨b8,0,none⟩) 0 0,(by omega),aA,ax.md,rfl,rfl,rfl,rfl,rfl⟩ ?_)))
 rintro O A wI ⟨i,a,hi,G,E,aB,aD,aF,aH,rfl⟩
 refine fx 1 aB (fx 2 aD (fx 5 aF (fx 6 aH ?_)))
 have hbl:=lJ (fun x=>decide (bF t x=q)) i
 refine sq (fun _ al=>U (fun _ am=>(ab (aa i) (p (lt rfl rfl) (ag ((am _ _ (cd rfl (fun hc10=> ?_) (fun hc10=> ?_)))))))))
 refine au (tn (al _ _ (sq (fun _ C=>az (U (fun _ an=>(p (dx nS rfl (rfl) (show ∀ j,j < 1→Hb.aC _ _ (0 +j)= [str t][j]? from fun j hj=>(by cases j with | zero=>exact (E.B hB2).aC 0 | succ j=>omega))) (ab (aa i) ?_))))))))
 refine p (ig u5 l9 rfl (nN (by omega))) (e (cl xu (vO t (UInt8.ofNat i) _ _ aI htl (rF i (by omega))) rfl fun aN w16 hR16=> ?_))
 obtain ⟨rfl,s⟩:=hR16
 refine ae (((an _ _ (U (fun _ ao=>(p mv (ab (.bool q) (p (Gh u4 rfl rfl) ?_))))))))
 refine ag ((ao _ _ (cd rfl (fun M=> ?_) (fun M=> ?_))))
 refine rg rfl (ab (a) (ab (aa i) (p (ig u5 l9 rfl (nN (by omega))) (e (ea eQ rfl rfl fun aK w23 aL J ar=> ?_)))))
 have hE23:Wk I w23:=Md.trans (Md.trans E s) J.md
 refine e (ap eQ (aE (aE G s) J.md) rfl (by have :=hE23.size; omega) rfl (ak.cQ ar) (rfl) (rfl) (by omega) (by omega) fun aJ aO Y aw hz24 aM=> ?_)
 have hE24:=Wk.own hE23 (aE (aE G s) J.md) aw (Nat.le_refl _)
 rw [← rF i (by omega)] at Y
 have ho24x:=l1 Y
 refine p aj (nl (bn (tn (C _ _ (rg rfl (ab (aa i) (p (a9 ((i+1:Nat):Int) rfl rfl (aQ (by omega) (by omega))) (p aj ?_))))))))
 exact ag ((⟨_,by omega,i+1,aJ,(by omega),((by rw [m5,if_pos (decide_eq_true M)]; exact ho24x)),hE24,rfl,rfl,rfl,rfl,rfl⟩))
 refine au (bn (tn (C _ _ (rg rfl (ab (aa i) (p (a9 ((i+1:Nat):Int) rfl rfl (aQ (by omega) (by omega))) (p aj (nl ?_))))))))
 exact tn (⟨_,by omega,i+1,a,(by omega),((by rw [m5,if_neg (fun h=>M (of_decide_eq_true h)),List.append_nil]; exact aE G s)),(Md.trans E s),rfl,rfl,rfl,rfl,rfl⟩)
 refine ext (te _ (te _ (be (tn (ah _ _ (U (fun _ C=>(ab (a) ?_))))))))
 refine p (bG (a) rfl) (ag ((C _ _ (rt (f1 rfl rfl ?_)))))
 have ay:i=256:=by omega
 subst ay
 exact ⟨fZ G V.md.size,Md.trans V.md E⟩
theorem KQ (t:List UInt8) (w:World) (ax:t.length=1∨3≤t.length) (htl:t.length≤1048576):
 aU Tryz.prog 168 (List.toArray [.agg [str t].toArray]) w (fun v w'=>v=str (eO (bF t))∧Wk w w'):=by
 have bE:(bytesOf (bF t)).length≤256:=lJ _ 256
 have hnl:(bytesOf (fun x=> !bF t x)).length≤256:=lJ _ 256
 have hba:=C5 (f:=bF t)
 refine enter Tryz.func168 rfl Tryz.ntmps168 rfl ?_
 refine sq (fun _ aN=> ?_)
 refine rg rfl ?_
 refine e (jo rfl fun a1 w1 bx bb hB1=> ?_)
 refine p aj ?_
 refine nl ?_
 refine tn (aN _ _ ?_)
 refine sq (fun _ aV=> ?_)
 refine rg rfl ?_
 refine p (dx nS rfl (rfl) (show ∀ j,j < 1→Hb.aC _ _ (0 +j)= [str t][j]? from fun j hj=>(by cases j with | zero=>exact (hB1).aC 0 | succ j=>omega))) ?_
 refine e (cl xr (vP t true _ ax htl) rfl fun v10 w10 hR10=> ?_)
 obtain ⟨ho10,aH⟩:=hR10
 rw [wP (g:=bF t) (fun x=>by cases bF t x <;> rfl)] at ho10
 obtain ⟨O,U,rfl⟩:=bU ho10
 have hCY:=(aI ho10).2
 have hB10:=aH.B hB1
 refine p aj ?_
 refine nl ?_
 refine tn (aV _ _ ?_)
 refine sq (fun _ aW=> ?_)
 refine rg rfl ?_
 refine p (dx nS rfl (rfl) (show ∀ j,j < 1→Hb.aC _ _ (0 +j)= [str t][j]? from fun j hj=>(by cases j with | zero=>exact (hB10).aC 0 | succ j=>omega))) ?_
 refine e (cl xr (vP t false _ ax htl) rfl fun cB w12 bd=> ?_)
 obtain ⟨ho12,hE12⟩:=bd
 rw [wP (g:=fun x=> !bF t x) (fun x=>by cases bF t x <;> rfl)] at ho12
 obtain ⟨bt,bw,rfl⟩:=bU ho12
 have hCY:=hCY.wk hE12
 have hB12:=hE12.B hB10
 have V:Wk w w12:=Md.trans bb.md (Md.trans aH hE12)
 refine p aj ?_
 refine nl ?_
 refine tn (aW _ _ ?_)
 refine sq (fun _ aX=> ?_)
 refine sq (fun _ aY=> ?_)
 refine rg rfl ?_
 refine p mv ?_
 refine p (ba jn rfl rfl) ?_
 refine p (a8 rfl rfl) ?_
 refine nl ?_
 refine tn (aY _ _ ?_)
 refine cd rfl (fun hc15=> ?_) (fun hc15=> ?_)
 refine sq (fun _ ah=> ?_)
 refine rg rfl ?_
 refine p aj ?_
 refine nl ?_
 refine tn (ah _ _ ?_)
 refine rt ?_
 refine tr ?_
 refine f1 rfl rfl ?_
 exact ⟨by unfold eO; rw [if_pos (hba.1 (by omega))]; rfl,V⟩
 refine au ?_
 refine tn (aX _ _ ?_)
 refine sq (fun _ ah=> ?_)
 refine sq (fun _ aZ=> ?_)
 refine rg rfl ?_
 refine p mv ?_
 refine p (ba jn rfl rfl) ?_
 refine p (a8 rfl rfl) ?_
 refine nl ?_
 refine tn (aZ _ _ ?_)
 refine cd rfl (fun hc18=> ?_) (fun hc18=> ?_)
 refine sq (fun _ ai=> ?_)
 refine sq (fun _ al=> ?_)
 refine rg rfl ?_
 refine p mv ?_
 refine p (aJ iK rfl rfl (by omega) (ak.ok (hCY) (lh (by omega)))) ?_
 refine p (ld kQ rfl (lg (i:=0) hCY (by omega))) ?_
 refine p (a8 rfl rfl) ?_
 refine nl ?_
 refine tn (al _ _ ?_)
 refine cd rfl (fun ao=> ?_) (fun ao=> ?_)
 refine sq (fun _ I=> ?_)
 refine rg rfl ?_
 refine p aj ?_
 refine nl ?_
 refine tn (I _ _ ?_)
 refine rt ?_
 refine tr ?_
 refine tr ?_
 refine f1 rfl rfl ?_
 exact ⟨by rw [KO (by omega) (by omega) (tT ao)]; rfl,V⟩
 refine au ?_
 refine tn (ai _ _ ?_)
 refine sq (fun _ I=> ?_)
 refine sq (fun _ J=> ?_)
 refine rg rfl ?_
 refine p mv ?_
 refine p (aJ iK rfl rfl (by omega) (ak.ok (hCY) (lh (by omega)))) ?_
 refine p (ld kQ rfl (lg (i:=0) hCY (by omega))) ?_
 refine p (a8 rfl rfl) ?_
 refine nl ?_
 refine tn (J _ _ ?_)
 refine cd rfl (fun aq=> ?_) (fun aq=> ?_)
 refine sq (fun _ M=> ?_)
 refine rg rfl ?_
 refine p aj ?_
 refine nl ?_
 refine tn (M _ _ ?_)
 refine rt ?_
 refine tr ?_
 refine tr ?_
 refine f1 rfl rfl ?_
 exact ⟨by rw [KP (by omega) (by omega) (qI aq)]; rfl,V⟩
 refine au ?_
 refine tn (I _ _ ?_)
 refine sq (fun _ M=> ?_)
 refine rg rfl ?_
 refine ab (.slice O (bytesOf (bF t)).length U) ?_
 refine p (jt jq rfl (hCY) (rfl)) ?_
 refine p aj ?_
 refine nl ?_
 refine tn (M _ _ ?_)
 refine rt ?_
 refine tr ?_
 refine f1 rfl rfl ?_
 exact ⟨by unfold eO; rw [if_neg (show ¬(bytesOf (bF t)).length=256 by omega),if_pos ⟨by omega,um ao,oC aq⟩]; rfl,V⟩
 refine au ?_
 refine tn (ah _ _ ?_)
 refine sq (fun _ ai=> ?_)
 refine rg rfl ?_
 refine p (dx nS rfl (rfl) (show ∀ j,j < 1→Hb.aC _ _ (0 +j)= [str t][j]? from fun j hj=>(by cases j with | zero=>exact (hB12).aC 0 | succ j=>omega))) ?_
 refine e (cl xu (vO t 93 _ _ ax htl rfl) rfl fun v30 w30 bf=> ?_)
 obtain ⟨rfl,C⟩:=bf
 have hE30x:=Md.trans V C
 refine p aj ?_
 refine nl ?_
 refine tn (ai _ _ ?_)
 refine sq (fun _ al=> ?_)
 refine sq (fun _ I=> ?_)
 refine rg rfl ?_
 refine p mv ?_
 refine nl ?_
 refine tn (I _ _ ?_)
 refine cb rfl (fun ar=> ?_) (fun ar=> ?_)
 refine sq (fun _ J=> ?_)
 refine rg rfl ?_
 refine p mv ?_
 refine p (jt jq rfl ((aI (aE ho12 C)).2) (rfl)) ?_
 refine p (cc rfl rfl (by simp only [List.length_cons,List.length_nil]; omega)) ?_
 refine p (cc rfl rfl (by simp only [List.length_cons,List.length_nil,List.length_append]; omega)) ?_
 refine p aj ?_
 refine nl ?_
 refine tn (J _ _ ?_)
 refine rt ?_
 refine tr ?_
 refine f1 rfl rfl ?_
 exact ⟨by unfold eO; rw [if_neg (show ¬(bytesOf (bF t)).length=256 by omega),if_neg (show ¬((bytesOf (bF t)).length=1∧_) from fun h=>by omega),if_pos ar]; rfl,hE30x⟩
 refine au ?_
 refine tn (al _ _ ?_)
 refine sq (fun _ J=> ?_)
 refine rg rfl ?_
 refine e (iY eQ fun aA w36 bz bc a2=> ?_)
 have bk:World.ownsRow w36 w30.heap.size 5 1 (.slice (some ⟨aA,0,none⟩) 0 0) (([]:List UInt8)).length (U8 (([]:List UInt8))):=a2 _ (by omega)
 refine p aj ?_
 refine nl ?_
 refine tn (J _ _ ?_)
 refine sq (fun _ M=> ?_)
 refine rg rfl ?_
 refine p aj ?_
 refine nl ?_
 refine tn (M _ _ ?_)
 refine sq (fun _ aO=> ?_)
 refine sq (fun _ aP=> ?_)
 refine rg rfl ?_
 refine p aj ?_
 refine nl ?_
 refine tn (aP _ _ ?_)
 refine az ?_
 refine lp (fun aF G wI=> ∃ (i:Nat) (ob:Bool) (ac:Value),(i≤(bytesOf (bF t)).length)∧(ob=decide (94∈(bytesOf (bF t)).take i))∧(World.ownsRow wI w30.heap.size 5 1 (ac) ((((bytesOf (bF t)).take i).filter (fun b=>decide (b≠94)))).length (U8 ((((bytesOf (bF t)).take i).filter (fun b=>decide (b≠94))))))∧(Wk w30 wI)∧(G 1=aG a1)∧(G 3= .slice O (bytesOf (bF t)).length U)∧(G 6=ac)∧(G 7= .bool ob)∧(G 8=aa i)∧((bytesOf (bF t)).length - i=aF)) _ ⟨0,false,.slice (some ⟨aA,0,none⟩) 0 0,(by omega),rfl,bk,bc.md,rfl,rfl,rfl,rfl,rfl,rfl⟩ ?_
 rintro aF G wI ⟨i,ob,ac,hi,E,q,a,bl,bm,bo,bp,bq,rfl⟩
 refine fx 1 bl (fx 3 bm (fx 6 bo (fx 7 bp (fx 8 bq ?_))))
 have hfl:(((bytesOf (bF t)).take i).filter (fun b=>decide (b≠94))).length≤256:=Nat.le_trans (List.length_filter_le _ _) (by rw [List.length_take]; omega)
 refine sq (fun _ aR=> ?_)
 refine sq (fun _ aS=> ?_)
 refine rg rfl ?_
 refine ab (aa i) ?_
 refine ab (.slice O (bytesOf (bF t)).length U) ?_
 refine p (ba jn rfl rfl) ?_
 refine p (lt rfl rfl) ?_
 refine nl ?_
 refine tn (aS _ _ ?_)
 refine cd rfl (fun bg=> ?_) (fun bg=> ?_)
 refine au ?_
 refine tn (aR _ _ ?_)
 refine sq (fun _ A=> ?_)
 refine az ?_
 refine sq (fun _ aT=> ?_)
 refine rg rfl ?_
 refine ab (.slice O (bytesOf (bF t)).length U) ?_
 refine ab (aa i) ?_
 refine p (aJ iK rfl rfl (by omega) (ak.ok (hCY.wk (Md.trans C a)) (lh (by omega)))) ?_
 refine p (ld kQ rfl (lg (i:=i) (hCY.wk (Md.trans C a)) (by omega))) ?_
 refine p (a8 rfl rfl) ?_
 refine nl ?_
 refine tn (aT _ _ ?_)
 refine cd rfl (fun av=> ?_) (fun av=> ?_)
 have h94:=zV av
 refine rg rfl ?_
 refine p aj ?_
 refine nl ?_
 refine bn ?_
 refine tn (A _ _ ?_)
 refine rg rfl ?_
 refine ab (aa i) ?_
 refine p (a9 ((i+1:Nat):Int) rfl rfl (aQ (by omega) (by omega))) ?_
 refine p aj ?_
 refine nl ?_
 refine tn ?_
 exact ⟨_,by omega,i+1,true,ac,(by omega),((by rw [ef _ i 0 (by omega),h94,decide_eq_true (by simp)])),((by rw [ef _ i 0 (by omega),h94,List.filter_append,List.filter_cons_of_neg (by simp),List.filter_nil,List.append_nil]; exact q)),a,rfl,rfl,rfl,rfl,rfl,rfl⟩
 have h94:=Js av
 refine rg rfl ?_
 refine ab (ac) ?_
 refine ab (.slice O (bytesOf (bF t)).length U) ?_
 refine ab (aa i) ?_
 refine p (aJ iK rfl rfl (by omega) (ak.ok (hCY.wk (Md.trans C a)) (lh (by omega)))) ?_
 refine p (ld kQ rfl (lg (i:=i) (hCY.wk (Md.trans C a)) (by omega))) ?_
 refine e (ea eQ rfl rfl fun bu w53 bA am a3=> ?_)
 have aK:Wk w30 w53:=Md.trans a am.md
 refine e (ap eQ (aE q am.md) rfl (by have :=aK.size; omega) rfl (ak.cQ a3) (rfl) (rfl) (by omega) (by omega) fun bs bI bi a6 bG bC=> ?_)
 have hE54:=Wk.own aK (aE q am.md) a6 (Nat.le_refl _)
 have ho54x:=l1 bi
 refine p aj ?_
 refine nl ?_
 refine bn ?_
 refine tn (A _ _ ?_)
 refine rg rfl ?_
 refine ab (aa i) ?_
 refine p (a9 ((i+1:Nat):Int) rfl rfl (aQ (by omega) (by omega))) ?_
 refine p aj ?_
 refine nl ?_
 refine tn ?_
 exact ⟨_,by omega,i+1,ob,bs,(by omega),((by rw [ef _ i 0 (by omega),E]; exact decide_eq_decide.2 (by rw [List.mem_append,List.mem_singleton]; exact ⟨.inl,fun h=>h.elim id (fun h=>absurd h.symm h94)⟩))),((by rw [ef _ i 0 (by omega),List.filter_append,List.filter_cons_of_pos (by simpa using h94),List.filter_nil]; exact ho54x)),hE54,rfl,rfl,rfl,rfl,rfl,rfl⟩
 refine ext ?_
 refine te _ ?_
 refine te _ ?_
 refine be ?_
 refine tn (aO _ _ ?_)
 refine cX (fun aM wC=> ∃ (ae:Option Addr) (s ag:Nat),(((bytesOf (bF t)).filter (fun b=>decide (b≠94))++(if 94∈(bytesOf (bF t)) then [94] else [])).length=s)∧(World.ownsRow wC w30.heap.size 5 1 (.slice ae s ag) s (U8 ((bytesOf (bF t)).filter (fun b=>decide (b≠94))++(if 94∈(bytesOf (bF t)) then [94] else []))))∧(Wk w wC)∧(s≤300)∧(aM 6= .slice ae s ag)) ?_ ?_
 refine sq (fun _ A=> ?_)
 obtain ⟨ay,aD,rfl⟩:=bU q
 have Z:(bytesOf (bF t)).take i=bytesOf (bF t):=List.take_of_length_le (by omega)
 rw [Z] at E
 refine rg rfl ?_
 refine ab (.bool ob) ?_
 refine nl ?_
 refine tn (A _ _ ?_)
 refine cb rfl (fun Y=> ?_) (fun Y=> ?_)
 refine rg rfl ?_
 refine p (aB (.slice ay (((bytesOf (bF t)).take i).filter (fun b=>decide (b≠94))).length aD) rfl) ?_
 refine e (ea eQ rfl rfl fun bv w57 bB an a4=> ?_)
 have hE57:Wk w30 w57:=Md.trans a an.md
 refine e (ap eQ (aE q an.md) rfl (by have :=hE57.size; omega) rfl (ak.cQ a4) (rfl) (rfl) (by omega) (by omega) fun bH w58 aw a7 hz58 bD=> ?_)
 have hE58:=Wk.own hE57 (aE q an.md) a7 (Nat.le_refl _)
 rw [Z] at aw
 have ho58x:=l1 (x:=94) aw
 obtain ⟨a0,c2,rfl⟩:=bU aw
 refine p aj ?_
 refine nl ?_
 refine tn ?_
 exact ⟨a0,_,c2,((by rw [if_pos (of_decide_eq_true (E ▸ Y)),List.length_append]; rfl)),((by rw [if_pos (of_decide_eq_true (E ▸ Y))]; rw [List.length_append] at ho58x; exact ho58x)),(Md.trans hE30x hE58),((by rw [← Z]; omega)),rfl⟩
 refine au ?_
 refine tn ?_
 exact ⟨ay,_,aD,((by rw [if_neg (of_decide_eq_false (E ▸ Y)),List.append_nil,Z])),((by rw [if_neg (of_decide_eq_false (E ▸ Y)),List.append_nil]; have h3:=q; rw [Z] at h3 ⊢; exact h3)),(Md.trans hE30x a),((by omega)),rfl⟩
 rintro aM wC ⟨ae,s,ag,aL,bj,a5,bh,br⟩
 refine fx 6 br ?_
 have hF3:((bytesOf (bF t)).filter (fun b=>decide (b≠94))++(if 94∈(bytesOf (bF t)) then [94] else [])).length≤300:=by rw [aL]; exact bh
 refine sq (fun _ A=> ?_)
 refine rg rfl ?_
 refine ab (.slice ae s ag) ?_
 refine p (jt jq rfl ((aI bj).2) (aL)) ?_
 refine p (cc rfl rfl (Nat.le_trans (Nat.add_le_add_left hF3 _) (by decide))) ?_
 refine p (cc rfl rfl (by rw [List.length_append]; exact Nat.le_trans (Nat.add_le_add_right (Nat.add_le_add_left hF3 _) _) (by decide))) ?_
 refine p aj ?_
 refine nl ?_
 refine tn (A _ _ ?_)
 refine rt ?_
 refine f1 rfl rfl ?_
 exact ⟨by unfold eO; rw [if_neg (show ¬(bytesOf (bF t)).length=256 by omega),if_neg (show ¬((bytesOf (bF t)).length=1∧_) from fun h=>by omega),if_neg (show ¬bF t 93=true from by rw [ar]; exact Bool.noConfusion)]; rfl,a5⟩
theorem EV (s:List UInt8) (i:Nat) (w:World) (hs:s.length≤1048576) (hi:i≤s.length):
 aU Tryz.prog 167 (List.toArray [str s,aa i]) w (fun v w'=>v= .int .i64 (kS s i)∧Wk w w'):=by
 refine enter Tryz.func167 rfl Tryz.ntmps167 rfl ?_
 refine U (fun _ I=>(ae (((I _ _ (sq (fun _ J=>az (lp (fun G E wI=> ∃ (k:Nat),(i≤k∧k≤s.length)∧(∀ j,i≤j→j < k→s.getD j 0≠93)∧(wI=w)∧(E 0=str s)∧(E 1=aa k)∧(s.length - k=G)) _ ⟨i,(by omega),((fun j h1 h2=>by omega)),rfl,rfl,rfl,rfl⟩ ?_))))))))
 rintro G E wI ⟨k,hk,C,Z,ac,ah,rfl⟩
 refine fx 0 ac (fx 1 ah ?_)
 subst Z
 refine sq (fun _ M=>U (fun _ O=>(ab (aa k) (ab (str s) (p (bI u9 rfl rfl) (p (lt rfl rfl) (nl ?_)))))))
 refine tn (O _ _ (cd rfl (fun hc8=> ?_) (fun hc8=> ?_)))
 refine au (tn (M _ _ (az (sq (fun _ a=>U (fun _ V=>(ab (str s) (ab (aa k) ?_))))))))
 refine p (dA u9 rfl rfl (by omega)) (p (a8 rfl rfl) (ag ((V _ _ (cd rfl (fun A=> ?_) (fun A=> ?_))))))
 have q:s.getD k 0=93:=UInt8.toNat_inj.1 (by have :(93:UInt8).toNat=93:=rfl; omega)
 refine U (fun _ Y=>(ab (aa k) (p (bG (aa k) rfl) (ag ((Y _ _ (rt (tr ?_))))))))
 exact br (tr (br (tr (f1 rfl rfl (⟨by rw [EZ (k:=k) (by omega) C q]; rfl,Md.refl _ _⟩)))))
 have q:s.getD k 0≠93:=fun h=>by rw [h] at A; exact A rfl
 refine au (tn (a _ _ (rg rfl (ab (aa k) (p (a9 ((k+1:Nat):Int) rfl rfl (aQ (by omega) (by omega))) (p aj (nl (bn ?_))))))))
 exact tn (⟨_,by omega,k+1,(by omega),((fun j h1 h2=>by rcases Nat.lt_or_ge j k with h | h <;> first | exact C j h1 h | (rw [show j=k by omega]; exact q))),rfl,rfl,rfl,rfl⟩)
 refine ext (te _ (te _ (be (tn (J _ _ (U (fun _ a=>(p aj ?_))))))))
 exact ag ((a _ _ (rt (f1 rfl rfl (⟨by rw [E0 (fun j h1 h2=>C j h1 (by omega))]; rfl,Md.refl _ _⟩)))))
theorem J0 (s:List UInt8) (w:World) (hs:s.length≤1048576):
 aU Tryz.prog 142 (List.toArray [str s]) w (fun v w'=>(∃ a,v= .tuple #[a,aa ((cA s).2)]∧World.ownsRow w' w.heap.size 261 1 (a) ((cA s).1).length (((cA s).1).map str))∧Wk w w'):=by
 refine enter Tryz.func142 rfl Tryz.ntmps142 rfl ?_
 refine U (fun _ aD=>(p aj (ae (((aD _ _ (sq (fun _ aG=>sq (fun _ av=> ?_)))))))))
 refine rg rfl (ab (str s) (p (bI u9 rfl rfl) (p (a8 rfl rfl) (p mv (gs (t:=11) rfl (fun hg11=> ?_) (fun hg11=> ?_))))))
 refine sk rfl rfl rfl rfl (sk rfl rfl rfl rfl (sk rfl rfl rfl rfl (p (bf rfl) (ag ((av _ _ (ct rfl (sq (fun _ O=> ?_)))))))))
 refine rg rfl (p aj (ae (((O _ _ (rt (tr (f2 rfl rfl rfl ?_))))))))
 exact ⟨⟨.slice none 0 0,by unfold cA; rw [if_pos (.inl (List.eq_nil_of_length_eq_zero (by omega)))]; rfl,by unfold cA; rw [if_pos (.inl (List.eq_nil_of_length_eq_zero (by omega)))]; exact World.ownsRow_nil _ _ _ _⟩,Md.refl _ _⟩
 refine pg rfl rfl rfl (aB (str s) rfl) (pg rfl rfl rfl (bI u9 rfl rfl) (pg rfl rfl rfl (gt rfl rfl) (p (a4 rfl) (ag ((av _ _ (cd rfl (fun hc15=> ?_) (fun hc15=> ?_))))))))
 refine U (fun _ O=>(p aj (ae (((O _ _ (rt (tr ?_))))))))
 exact f2 rfl rfl rfl (⟨⟨.slice none 0 0,by unfold cA; rw [if_pos (.inr (by omega))]; rfl,by unfold cA; rw [if_pos (.inr (by omega))]; exact World.ownsRow_nil _ _ _ _⟩,Md.refl _ _⟩)
 refine au (tn (aG _ _ (U (fun _ O=>(ae (((O _ _ (sq (fun _ aH=> ?_))))))))))
 refine U (fun _ aI=>(ab (str s) (p (cG rfl rfl) (ag ((aI _ _ (cd rfl (fun C=> ?_) (fun C=> ?_))))))))
 refine U (fun _ ai=>(p mv (p aj (ae (((ai _ _ (rt ?_))))))))
 refine tr (f2 rfl rfl rfl ?_)
 have aA:¬(s= []∨512 < s.length):=fun h=>h.elim (fun h=>by rw [h] at hg11; exact hg11 rfl) (fun h=>by omega)
 exact ⟨⟨.slice none 0 0,by unfold cA; rw [if_neg aA,if_pos C]; rfl,by unfold cA; rw [if_neg aA,if_pos C]; exact World.ownsRow_nil _ _ _ _⟩,Md.refl _ _⟩
 refine au (tn (aH _ _ (U (fun _ ai=>(ae (((ai _ _ (sq (fun _ aJ=> ?_))))))))))
 refine az (lp (fun aw ac wI=> ∃ (i:Nat) (dn:List (List UInt8)) (G:Value),(i≤s.length∧dn.length≤i)∧(gy s i dn)∧(World.ownsRow wI w.heap.size 261 1 (G) (dn).length ((dn).map str))∧(Wk w wI)∧(ac 0=str s)∧(ac 4=G)∧(ac 5=aa i)∧(s.length - i=aw)) _ ⟨0,[],.slice none 0 0,((by simp)),(gy.start s),(World.ownsRow_nil _ _ _ _),(Md.refl _ _),rfl,rfl,rfl,rfl⟩ ?_)
 rintro aw ac wI ⟨i,dn,G,hi,E,V,A,aZ,a0,a1,rfl⟩
 refine fx 0 aZ (fx 4 a0 (fx 5 a1 (sq (fun _ aK=>U (fun _ aF=>(ab (aa i) (ab (str s) (p (bI u9 rfl rfl) (p (lt rfl rfl) ?_)))))))))
 refine ag ((aF _ _ (cd rfl (fun aP=> ?_) (fun aP=> ?_))))
 refine au (tn (aK _ _ (az (U (fun _ ah=>(ab (aa i) (p (a9 ((i+1:Nat):Int) rfl rfl (aQ (by omega) (by omega))) (p aj ?_))))))))
 refine ag ((ah _ _ ?_))
 refine cX (fun Y wC=> ∃ (j:Nat),(i < j∧j≤s.length)∧(gy s j (dn++ [(s.take j).drop i]))∧(World.ownsRow wC w.heap.size 261 1 (G) (dn).length ((dn).map str))∧(Wk w wC)∧(Y 0=str s)∧(Y 4=G)∧(Y 5=aa i)∧(Y 6=aa j)) ?_ ?_
 refine U (fun _ I=>(ab (str s) (ab (aa i) (p (dA u9 rfl rfl (by omega)) (p (a8 rfl rfl) (ag ((I _ _ ?_))))))))
 refine cd rfl (fun ao=> ?_) (fun ao=> ?_)
 refine U (fun _ J=>(ab (str s) (ab (aa i) (e (cl DM (EV s i _ hs (by omega)) rfl fun bh w31 aO=> ?_)))))
 obtain ⟨rfl,hE31⟩:=aO
 have hb91:=qI ao
 obtain ⟨ay,aS⟩:=EY (show i < s.length by omega) hb91
 have hdi:=drop_cons (l:=s) (i:=i) 0 (by omega)
 have hdl:(s.drop (i+1)).length=s.length - (i+1):=List.length_drop
 refine ae (((J _ _ (sq (fun _ ar=>U (fun _ Z=>(p mv (p (lt rfl rfl) ?_))))))))
 refine p mv (gs (t:=34) rfl (fun aT=> ?_) (fun aT=> ?_))
 have q:eU (s.drop i)=none:=by
  rw [hdi,hb91]
  exact pT rfl (fun h=>(ay.1 (by omega)) h.1)
 have hcr:=E.bad (by omega) q
 refine sk rfl rfl rfl rfl (sk rfl rfl rfl rfl (sk rfl rfl rfl rfl (sk rfl rfl rfl rfl (p (bf rfl) (p mv (sk rfl rfl rfl rfl (sk rfl rfl rfl rfl ?_)))))))
 refine sk rfl rfl rfl rfl (sk rfl rfl rfl rfl (sk rfl rfl rfl rfl (ek rfl rfl rfl (ek rfl rfl rfl (ek rfl rfl rfl (ek rfl rfl rfl (ek rfl rfl rfl ?_)))))))
 refine sk rfl rfl rfl rfl (p (bf rfl) (ag ((Z _ _ (ct rfl (U (fun _ M=>(p aj ?_))))))))
 refine ae (((M _ _ (rt (tr (tr (br (tr ?_))))))))
 refine br (tr (f2 rfl rfl rfl ?_))
 have hz:cA s=([],41):=by unfold cA; rw [if_neg (fun h=>h.elim (fun h=>by rw [h] at hg11; exact hg11 rfl) (fun h=>by omega)),if_neg C,hcr]
 exact ⟨⟨.slice none 0 0,by rw [hz]; rfl,by rw [hz]; exact World.ownsRow_nil _ _ _ _⟩,Md.trans A hE31⟩
 have hck:=aS (by omega)
 have hml:(s.drop (i+1)).idxOf 93 < (s.drop (i+1)).length:=Decidable.of_not_not (fun h=>by have :=ay.2 h; omega)
 refine pg rfl rfl rfl mv (pg rfl rfl rfl (aB (aa i) rfl) (pg rfl rfl rfl (a9 ((i+1:Nat):Int) rfl rfl (aQ (by omega) (by omega))) (pg rfl rfl rfl (a8 rfl rfl) (p (a4 rfl) (p mv (gs (t:=40) rfl (fun aV=> ?_) (fun aV=> ?_)))))))
 have q:eU (s.drop i)=none:=by
  rw [hdi,hb91]
  exact pT rfl (fun h=>h.2.1 (by omega))
 have hcr:=E.bad (by omega) q
 refine sk rfl rfl rfl rfl (sk rfl rfl rfl rfl (sk rfl rfl rfl rfl (sk rfl rfl rfl rfl (sk rfl rfl rfl rfl (ek rfl rfl rfl (ek rfl rfl rfl (ek rfl rfl rfl ?_)))))))
 refine ek rfl rfl rfl (ek rfl rfl rfl (sk rfl rfl rfl rfl (p (bf rfl) (ag ((Z _ _ (ct rfl (sq (fun _ M=> ?_)))))))))
 refine rg rfl (p aj (ae (((M _ _ (rt (tr (tr ?_))))))))
 refine br (tr (br (tr (f2 rfl rfl rfl ?_))))
 have hz:cA s=([],41):=by unfold cA; rw [if_neg (fun h=>h.elim (fun h=>by rw [h] at hg11; exact hg11 rfl) (fun h=>by omega)),if_neg C,hcr]
 exact ⟨⟨.slice none 0 0,by rw [hz]; rfl,by rw [hz]; exact World.ownsRow_nil _ _ _ _⟩,Md.trans A hE31⟩
 refine pg rfl rfl rfl mv (pg rfl rfl rfl (aB (aa i) rfl) (pg rfl rfl rfl (a9 ((i+2:Nat):Int) rfl rfl (aQ (by omega) (by omega))) (pg rfl rfl rfl (a8 rfl rfl) (pg rfl rfl rfl mv (gs (t:=45) rfl (fun aW=> ?_) (fun aW=> ?_))))))
 refine pg rfl rfl rfl (aB (str s) rfl) (pg rfl rfl rfl (aB (aa i) rfl) (pg rfl rfl rfl (a9 ((i+1:Nat):Int) rfl rfl (aQ (by omega) (by omega))) (pg rfl rfl rfl (dA u9 rfl rfl (by omega)) (pg rfl rfl rfl (a8 rfl rfl) (pg rfl rfl rfl (bf rfl) (p (a4 rfl) (nl ?_)))))))
 refine tn (Z _ _ (cd rfl (fun aq=> ?_) (fun aq=> ?_)))
 have q:eU (s.drop i)=none:=by
  rw [hdi,hb91]
  exact pT rfl (fun h=>h.2.2 ⟨by omega,by rw [yq]; exact zV aq⟩)
 have hcr:=E.bad (by omega) q
 refine U (fun _ M=>(p aj (ae (((M _ _ (rt (tr ?_))))))))
 refine tr (br (tr (br (tr (f2 rfl rfl rfl ?_)))))
 have hz:cA s=([],41):=by unfold cA; rw [if_neg (fun h=>h.elim (fun h=>by rw [h] at hg11; exact hg11 rfl) (fun h=>by omega)),if_neg C,hcr]
 exact ⟨⟨.slice none 0 0,by rw [hz]; rfl,by rw [hz]; exact World.ownsRow_nil _ _ _ _⟩,Md.trans A hE31⟩
 have q:eU (s.drop i)=some (91::(s.drop (i+1)).take ((s.drop (i+1)).idxOf 93 +1),(s.drop (i+1)).drop ((s.drop (i+1)).idxOf 93 +1)):=by
  rw [hdi,hb91]
  exact sI rfl hml (by omega) (fun h=>aq (by rw [← yq,h.2]; rfl))
 have hgo2:=E.step (j:=i+1 +(s.drop (i+1)).idxOf 93 +1) q (by rw [List.drop_drop]; rfl)
 rw [wH hb91 (by omega)] at hgo2
 refine au (tn (ar _ _ (rg rfl (p mv (p (a9 ((i+1 +(s.drop (i+1)).idxOf 93 +1:Nat):Int) rfl rfl (aQ (by omega) (by omega))) (p aj (nl (tn ?_))))))))
 exact ⟨i+1 +(s.drop (i+1)).idxOf 93 +1,((by omega)),hgo2,(aE V hE31),(Md.trans A hE31),rfl,rfl,rfl,rfl⟩
 have q:eU (s.drop i)=some (91::(s.drop (i+1)).take ((s.drop (i+1)).idxOf 93 +1),(s.drop (i+1)).drop ((s.drop (i+1)).idxOf 93 +1)):=by
  rw [hdi,hb91]
  exact sI rfl hml (by omega) (fun h=>by omega)
 have hgo2:=E.step (j:=i+1 +(s.drop (i+1)).idxOf 93 +1) q (by rw [List.drop_drop]; rfl)
 rw [wH hb91 (by omega)] at hgo2
 refine sk rfl rfl rfl rfl (sk rfl rfl rfl rfl (sk rfl rfl rfl rfl (sk rfl rfl rfl rfl (sk rfl rfl rfl rfl (pg rfl rfl rfl (a4 rfl) (p (a4 rfl) (nl ?_)))))))
 refine tn (Z _ _ (cf rfl (au (tn (ar _ _ (rg rfl (p mv (p (a9 ((i+1 +(s.drop (i+1)).idxOf 93 +1:Nat):Int) rfl rfl (aQ (by omega) (by omega))) (p aj ?_)))))))))
 exact ag ((⟨i+1 +(s.drop (i+1)).idxOf 93 +1,((by omega)),hgo2,(aE V hE31),(Md.trans A hE31),rfl,rfl,rfl,rfl⟩))
 have hn91:=oC ao
 have hdi:=drop_cons (l:=s) (i:=i) 0 (by omega)
 have q:eU (s.drop i)=some ([s.getD i 0],s.drop (i+1)):=by rw [hdi]; exact xL hn91
 have hgo2:=E.step (j:=i+1) q rfl
 rw [← Jw (show i < s.length by omega)] at hgo2
 exact au (tn (⟨i+1,((by omega)),hgo2,V,A,rfl,rfl,rfl,rfl⟩))
 rintro Y wC ⟨j,hj,aX,aC,aM,a2,a3,a5,a6⟩
 refine fx 0 a2 (fx 4 a3 (fx 5 a5 (fx 6 a6 (U (fun _ I=>(ab (G) (ab (str s) (ab (aa i) (ab (aa j) (p (iN u9 rfl rfl rfl (by omega)) ?_))))))))))
 refine p (bY (ps:= [(0,str ((s.take j).drop i))]) (L:= [str ((s.take j).drop i)]) Ln rfl (rfl)) (e (ib Bq rfl rfl rfl fun bb w61 bc an aL=> ?_))
 have ax:Wk w w61:=Md.trans aM an.md
 refine e (ap Bq (aE aC an.md) rfl (by have :=ax.size; omega) rfl (ak.cQ aL) (rfl) (rfl) (by omega) (by omega) fun a7 bi aY aN bg bd=> ?_)
 have hE62:=Wk.own ax (aE aC an.md) aN (Nat.le_refl _)
 have ho62x:=JF aY
 refine ae (((I _ _ (rg rfl (ab (aa j) (p (bG (aa j) rfl) (nl (bn ?_))))))))
 exact tn (⟨_,by omega,j,dn++ [(s.take j).drop i],a7,((by rw [List.length_append,List.length_singleton]; omega)),aX,ho62x,hE62,rfl,rfl,rfl,rfl⟩)
 refine ext (te _ (te _ (be (tn (aJ _ _ (sq (fun _ ah=>sq (fun _ I=> ?_))))))))
 obtain ⟨al,am,rfl⟩:=bU V
 have hcr:=E.done (by omega)
 refine rg rfl (ab (.slice al dn.length am) (p (ba vg rfl rfl) (p (gt rfl rfl) (ag ((I _ _ (cd rfl (fun aR=> ?_) (fun aR=> ?_))))))))
 refine U (fun _ J=>(p aj (ae (((J _ _ (rt (tr ?_))))))))
 refine f2 rfl rfl rfl ?_
 have hz:cA s=([],42):=by unfold cA; rw [if_neg (fun h=>h.elim (fun h=>by rw [h] at hg11; exact hg11 rfl) (fun h=>by omega)),if_neg C,hcr]; exact if_pos (by omega)
 exact ⟨⟨.slice none 0 0,by rw [hz]; rfl,by rw [hz]; exact World.ownsRow_nil _ _ _ _⟩,A⟩
 refine au (tn (ah _ _ (U (fun _ J=>(ab (.slice al dn.length am) (p (bG (.slice al dn.length am) rfl) (p aj (nl ?_))))))))
 refine tn (J _ _ (rt (f2 rfl rfl rfl ?_)))
 have hz:cA s=(dn,0):=by unfold cA; rw [if_neg (fun h=>h.elim (fun h=>by rw [h] at hg11; exact hg11 rfl) (fun h=>by omega)),if_neg C,hcr]; exact if_neg (by omega)
 exact ⟨⟨_,by rw [hz]; rfl,by rw [hz]; exact V⟩,A⟩
theorem Kw (ps:List (List UInt8)) (a:Option Addr) (c:Nat) (w:World) (hC:ak w.heap a (ps.map str)) (hn:ps.length≤4096) (G:∀ t∈ps,(t.length=1∨3≤t.length)∧t.length≤1048576):
 aU Tryz.prog 143 (List.toArray [.slice a ps.length c]) w (fun v w'=>v=str (jJ ps)∧Wk w w'):=by
 refine enter Tryz.func143 rfl Tryz.ntmps143 rfl ?_
 refine U (fun _ I=>(ae (((I _ _ (sq (fun _ M=>U (fun _ O=> ?_))))))))
 refine ab (.slice a ps.length c) (p (ba vg rfl rfl) (p (a8 rfl rfl) (ag ((O _ _ (cd rfl (fun hc8=> ?_) (fun hc8=> ?_)))))))
 refine U (fun _ A=>(ae (((A _ _ (rt (tr (f1 rfl rfl ?_))))))))
 exact ⟨by unfold jJ; rw [if_pos (List.eq_nil_of_length_eq_zero (by omega))]; rfl,Md.refl _ _⟩
 refine au (tn (M _ _ (U (fun _ A=>(ae (((A _ _ (sq (fun _ V=> ?_))))))))))
 refine U (fun _ Y=>(ae (((Y _ _ (az (lp (fun E s wI=> ∃ (i:Nat),(i≤ps.length)∧(Wk w wI)∧(((ps.take i).flatMap fun t=>eO (bF t)).length≤i*300)∧(s 0= .slice a ps.length c)∧(s 3=str ((ps.take i).flatMap fun t=>eO (bF t)))∧(s 4=aa i)∧(ps.length - i=E)) _ ⟨0,(by omega),(Md.refl _ _),((by simp)),rfl,(by first | rfl | (rw [ef ps i [] (by omega),List.flatMap_append,List.flatMap_singleton]; rfl)),rfl,rfl⟩ ?_)))))))
 rintro E s wI ⟨i,hi,q,hlen,am,an,ao,rfl⟩
 refine fx 0 am (fx 3 an (fx 4 ao (sq (fun _ Z=>U (fun _ ac=>(ab (aa i) (ab (.slice a ps.length c) (p (ba vg rfl rfl) (p (lt rfl rfl) ?_)))))))))
 refine ag ((ac _ _ (cd rfl (fun al=> ?_) (fun al=> ?_))))
 refine au (tn (Z _ _ (sq (fun _ C=>az (U (fun _ J=>(ab (.slice a ps.length c) (ab (aa i) ?_))))))))
 refine p (aJ Gs rfl rfl (by omega) (ak.ok (hC.wk q) (bl (by omega)))) (p (dx nS rfl (rfl) (show ∀ j,j < 1→Hb.aC wI.heap (bk a) (fo a+i*1 +j)= [str (ps.getD i [])][j]? from fun j hj=>(by cases j with | zero=>exact (IZ (hC.wk q) (by omega)) | succ j=>omega))) (e (cl DN (KQ (ps.getD i []) _ (G _ (c6 (by omega))).1 (G _ (c6 (by omega))).2) rfl fun ap w19 ai=> ?_)))
 obtain ⟨rfl,ah⟩:=ai
 have hsl:=Bg (bF (ps.getD i []))
 refine ae (((J _ _ (rg rfl (ab (str ((ps.take i).flatMap fun t=>eO (bF t))) (p mv (p (cc rfl rfl (by omega)) (p aj ?_))))))))
 refine nl (bn (tn (C _ _ (rg rfl (ab (aa i) (p (a9 ((i+1:Nat):Int) rfl rfl (aQ (by omega) (by omega))) (p aj (nl ?_))))))))
 exact tn (⟨_,by omega,i+1,(by omega),(Md.trans q ah),((by rw [ef ps i [] (by omega),List.flatMap_append,List.flatMap_singleton,List.length_append]; omega)),rfl,(by first | rfl | (rw [ef ps i [] (by omega),List.flatMap_append,List.flatMap_singleton]; rfl)),rfl,rfl⟩)
 refine ext (te _ (te _ (be (tn (V _ _ (U (fun _ C=>(ab (str ((ps.take i).flatMap fun t=>eO (bF t))) ?_))))))))
 exact p (bG (str ((ps.take i).flatMap fun t=>eO (bF t))) rfl) (ag ((C _ _ (rt (f1 rfl rfl (⟨by unfold jJ; rw [if_neg (fun h=>by rw [h] at hc8; exact hc8 rfl),show ps.take i=ps from List.take_of_length_le (by omega)]; rfl,q⟩))))))
end Go.Hb.o6
end
section
set_option maxRecDepth 20000
set_option maxHeartbeats 1000000
namespace Go.Hb.mi
open Go.Hb.di
open Go.Proofs
open Go.Hb.gl
theorem zq {α:Type} {l:List α} {i:Nat} {d:α} (h:i < l.length):l.getD i d∈l:=by
 rw [List.getD_eq_getElem?_getD,List.getElem?_eq_getElem h]; exact List.getElem_mem h
theorem uL (s:List UInt8) (w:World) (hs:s.length≤1048576):
 aU Tryz.prog 40 (List.toArray [str s]) w (fun v w'=>World.ownsRow w' w.heap.size 9 1 (v) ((a6 s)).length (((a6 s)).map str)∧Wk w w'):=by
 refine enter Tryz.func40 rfl Tryz.ntmps40 rfl ?_
 refine U (fun _ aG=>(ae (((aG _ _ ?_)))))
 refine cX (fun aF aD=>(Wk w aD)∧(aF 0=str (gT s))) ?_ ?_
 refine U (fun _ ac=>(ab (str s) (e (cl DU (I1 s _) rfl fun bu w8 hR8=> ?_))))
 obtain ⟨rfl,ay⟩:=hR8
 refine ag ((ac _ _ (cb rfl (fun hc8=> ?_) (fun hc8=> ?_))))
 have hml:=I0 hc8
 exact rg rfl (ab (str s) (p (kB u9 rfl rfl (by omega)) (ae (((⟨ay,by show str (s.drop 3)=_; rw [LS hc8]⟩))))))
 exact au (tn (⟨ay,by show str s=_; rw [LR hc8]⟩))
 rintro aF aD ⟨aw,a5⟩
 refine fx 0 a5 ?_
 have htl:=rG s
 refine U (fun _ ac=>(ae (((ac _ _ (U (fun _ aH=>(e (iY eQ fun aq w11 hb11 aY aO=> ?_)))))))))
 have a3:World.ownsRow w11 w.heap.size 5 1 (.slice (some ⟨aq,0,none⟩) 0 0) (([]:List UInt8)).length (U8 (([]:List UInt8))):=aO _ (by have :=aw.size; omega)
 have aT:Wk w w11:=Md.trans aw aY.md
 refine ae (((aH _ _ (U (fun _ aJ=>(ae (((aJ _ _ ?_)))))))))
 refine sq (fun _ aK=>U (fun _ aL=>(ae (((aL _ _ (az (lp (fun av C wI=> ∃ (i:Nat) (dn:List (List UInt8)) (a:List UInt8) (ob:Bool) (q V:Value),(i≤(gT s).length)∧(dn++dX a ((gT s).drop i)=a6 s)∧(ob=decide (a≠[]))∧(a.length≤i)∧(Wk w wI)∧(World.ownsRow wI w.heap.size 9 1 (q) (dn).length ((dn).map str))∧(World.ownsRow wI w.heap.size 5 1 (V) (a).length (U8 (a)))∧(C 0=str (gT s))∧(C 3=q)∧(C 4=V)∧(C 5= .bool ob)∧(C 6= .int .i64 i)∧((gT s).length - i=av)) _ ⟨0,[],[],false,.slice none 0 0,.slice (some ⟨aq,0,none⟩) 0 0,(by omega),rfl,rfl,((by simp)),aT,(World.ownsRow_nil _ _ _ _),a3,rfl,rfl,rfl,rfl,rfl,rfl⟩ ?_))))))))
 rintro av C wI ⟨i,dn,a,ob,q,V,hi,hd,aC,hcl,M,A,j,a7,a8,a9,ba,bb,rfl⟩
 refine fx 0 a7 (fx 3 a8 (fx 4 a9 (fx 5 ba (fx 6 bb ?_))))
 have hdl:dn.length≤s.length+1:=by have h1:=congrArg List.length hd; have h2:=jZ s; rw [List.length_append] at h1; omega
 have hsz:=M.size
 refine sq (fun _ aM=>U (fun _ aN=>(ab (.int .i64 i) (ab (str (gT s)) (p (bI u9 rfl rfl) (p (lt rfl rfl) (nl ?_)))))))
 refine tn (aN _ _ (cd rfl (fun hc15=> ?_) (fun hc15=> ?_)))
 refine au (tn (aM _ _ (sq (fun _ G=>az (sq (fun _ Y=>U (fun _ E=>(ab (str (gT s)) ?_))))))))
 refine ab (.int .i64 i) (p (dA u9 rfl rfl (by omega)) (p (bP rfl rfl) (ag ((E _ _ (cd rfl (fun an=> ?_) (fun an=> ?_)))))))
 refine U (fun _ Z=>(ab (V) (ab (str (gT s)) (ab (.int .i64 i) (p (dA u9 rfl rfl (by omega)) (e (ea eQ rfl rfl fun bf w26 bi O aP=> ?_)))))))
 have hE26:Wk w w26:=Md.trans M O.md
 refine e (ap eQ (aE j O.md) rfl (by have :=hE26.size; omega) rfl (ak.cQ aP) (rfl) (rfl) (by omega) (by omega) fun bc bv a1 aA hz27 bm=> ?_)
 have hE27:=Wk.own hE26 (aE j O.md) aA (Nat.le_refl _)
 have ho27x:=l1 a1
 have hod27:=bW (aE A O.md) aA (fun k hk=>jh A j (by decide) hk)
 refine ae (((Z _ _ (U (fun _ aa=>(ae (((aa _ _ ?_)))))))))
 refine ext (te _ (be (tn (G _ _ (rg rfl (ab (.int .i64 i) (p (ad rfl rfl (bp (by omega))) (p aj ?_))))))))
 exact ag ((⟨_,by omega,i+1,dn,a++ [(gT s).getD i 0],true,q,bc,(by omega),((by rw [drop_cons 0 (by omega),ub (Jq an)] at hd; exact hd)),((by simp)),((by rw [List.length_append,List.length_singleton]; omega)),hE27,hod27,ho27x,rfl,rfl,rfl,rfl,rfl,rfl⟩))
 have hb10:=Ik (Decidable.of_not_not an)
 obtain ⟨I,J,rfl⟩:=bU j
 refine au (tn (Y _ _ (U (fun _ Z=>(ab (q) (ab (.slice I a.length J) (e (cl xG (yw a I J _ (aI j).2 (by omega) (aI j).1) rfl fun v30 w30 aZ=> ?_))))))))
 obtain ⟨rfl,ah⟩:=aZ
 refine e (ea dU rfl rfl fun bg w31 bj al aQ=> ?_)
 have hE31:Wk w w31:=Md.trans (Md.trans M ah) al.md
 refine e (ap dU (aE (aE A ah) al.md) rfl (by have :=hE31.size; omega) rfl (ak.cQ aQ) (rfl) (rfl) (by omega) (by omega) fun bd bw a2 aW hz32 bo=> ?_)
 have hE32:=Wk.own hE31 (aE (aE A ah) al.md) aW (Nat.le_refl _)
 have ho32x:=ji a2
 refine ae (((Z _ _ (U (fun _ aa=>(e (iY eQ fun ar w33 bk aB aR=> ?_)))))))
 have aV:Wk w w33:=Md.trans hE32 aB.md
 have a4:World.ownsRow w33 w.heap.size 5 1 (.slice (some ⟨ar,0,none⟩) 0 0) (([]:List UInt8)).length (U8 (([]:List UInt8))):=aR _ (by have :=hE32.size; omega)
 refine ae (((aa _ _ (rg rfl (p aj (nl (bn (tn (G _ _ ?_)))))))))
 exact rg rfl (ab (.int .i64 i) (p (ad rfl rfl (bp (by omega))) (ae (((⟨_,by omega,i+1,dn++ [fX a],[],false,bd,.slice (some ⟨ar,0,none⟩) 0 0,(by omega),((by rw [drop_cons 0 (by omega),hb10,Ad] at hd; rw [List.append_assoc]; exact hd)),rfl,((by simp)),aV,(aE ho32x aB.md),a4,rfl,rfl,rfl,rfl,rfl,rfl⟩))))))
 refine ext (te _ (te _ (be (tn (aK _ _ (sq (fun _ G=>U (fun _ Y=> ?_))))))))
 refine ab (.bool ob) (ag ((Y _ _ (cb rfl (fun ao=> ?_) (fun ao=> ?_)))))
 have hne:a≠[]:=by have :=aC.symm.trans ao; exact of_decide_eq_true this
 obtain ⟨I,J,rfl⟩:=bU j
 refine rg rfl (ab (q) (ab (.slice I a.length J) (e (cl xG (yw a I J _ (aI j).2 (by omega) (aI j).1) rfl fun bs w37 a0=> ?_))))
 obtain ⟨rfl,ai⟩:=a0
 refine e (ea dU rfl rfl fun bh w38 bl am aS=> ?_)
 have ax:Wk w w38:=Md.trans (Md.trans M ai) am.md
 refine e (ap dU (aE (aE A ai) am.md) rfl (by have :=ax.size; omega) rfl (ak.cQ aS) (rfl) (rfl) (by omega) (by omega) fun bt w39 ho39 aX br bq=> ?_)
 have hE39:=Wk.own ax (aE (aE A ai) am.md) aX (Nat.le_refl _)
 have ho39x:=ji ho39
 refine ae (((G _ _ (U (fun _ E=>(p mv (p aj (nl ?_))))))))
 refine tn (E _ _ (rt (f1 rfl rfl ?_)))
 have hd2:dn++ [fX a]=a6 s:=by rw [← hd,show List.drop i (gT s)= [] from List.drop_eq_nil_of_le (by omega),Ac hne]
 exact ⟨by rw [← hd2]; exact ho39x,hE39⟩
 have hne:a= []:=Decidable.of_not_not (of_decide_eq_false (aC.symm.trans ao))
 refine au (tn (G _ _ (U (fun _ E=>(ab (q) (p (bG (q) rfl) (ag ((E _ _ ?_)))))))))
 refine rt (f1 rfl rfl ?_)
 have hd2:dn=a6 s:=by rw [← hd,show List.drop i (gT s)= [] from List.drop_eq_nil_of_le (by omega),hne,uc,List.append_nil]
 exact ⟨by rw [← hd2]; exact A,M⟩
set_option maxHeartbeats 1000000 in
theorem A2 (s:List UInt8) (w:World) (hs:s.length≤1048576):
 aU Tryz.prog 18 (List.toArray [str s]) w (fun v w'=>(∃ a,v= .tuple #[a,.int .i64 (if 65536 < s.length then 10 else 0)]∧(if 65536 < s.length then a= .slice none 0 0 else ∃ vs,World.ownsRow w' w.heap.size 50 2 a (bd s).length (gJ vs)∧eI w' w.heap.size 9 vs (bd s)))∧Wk w w'):=by
 refine enter Tryz.func18 rfl Tryz.ntmps18 rfl ?_
 refine U (fun _ aS=>(p aj (ae (((aS _ _ (sq (fun _ aY=>sq (fun _ aZ=> ?_)))))))))
 refine rg rfl (ab (str s) (p (bI u9 rfl rfl) (p (gt rfl rfl) (ag ((aZ _ _ (cd rfl (fun bg=> ?_) (fun bg=> ?_))))))))
 refine U (fun _ aA=>(p aj (ae (((aA _ _ (rt (tr ?_))))))))
 refine f2 rfl rfl rfl ?_
 have hl:65536 < s.length:=by omega
 exact ⟨⟨.slice none 0 0,by show Value.tuple #[.slice none 0 0,.int .i64 10]=_; rw [if_pos hl],by rw [if_pos hl]⟩,Md.refl _ _⟩
 refine au (tn (aY _ _ (U (fun _ aA=>(ae (((aA _ _ (sq (fun _ a0=> ?_))))))))))
 refine rg rfl (ab (str s) (e (cl sn (uL s _ hs) rfl fun bM w14 a8=> ?_)))
 obtain ⟨aP,hE14⟩:=a8
 obtain ⟨ar,aw,rfl⟩:=bU aP
 have hS14:=(aI aP).2
 have hll:=jZ s
 refine ae (((a0 _ _ (sq (fun _ a1=>U (fun _ a2=>(p aj (nl ?_))))))))
 refine tn (a2 _ _ (az (lp (fun al ay wI=> ∃ (i:Nat) (J:Value) (vs:List (Nat×Value)),(i≤(a6 s).length)∧(Wk w14 wI)∧(World.ownsRow wI w14.heap.size 50 2 J (hY 1 ((a6 s).take i)).length (gJ vs))∧(eI wI w14.heap.size 9 vs (hY 1 ((a6 s).take i)))∧(ay 4=J)∧(ay 5= .slice ar (a6 s).length aw)∧(ay 6= .int .i64 i)∧((a6 s).length - i=al)) _ ⟨0,.slice none 0 0,[],(by omega),(Md.refl _ _),(World.ownsRow_nil _ _ _ _),(eI.nil _ _ _),rfl,rfl,rfl,rfl⟩ ?_)))
 rintro al ay wI ⟨i,J,vs,hi,an,I,hrw,bq,br,bs,rfl⟩
 refine fx 4 bq (fx 5 br (fx 6 bs ?_))
 have hrl:=uM ((a6 s).take i) 1
 rw [List.length_take] at hrl
 have hsz:=an.size
 refine sq (fun _ a3=>sq (fun _ a5=> ?_))
 have bK:((a6 s).getD i []).length≤s.length:=by rcases Nat.lt_or_ge i (a6 s).length with h | h <;> first | exact tZ (zq h) | (rw [List.getD_eq_getElem?_getD,List.getElem?_eq_none h]; exact Nat.zero_le _)
 refine rg rfl (ab (.int .i64 i) (ab (.slice ar (a6 s).length aw) (p (ba c9 rfl rfl) (p (lt rfl rfl) (ag ((a5 _ _ (cd rfl (fun hc18=> ?_) (fun hc18=> ?_)))))))))
 refine au (tn (a3 _ _ (sq (fun _ ac=>az (U (fun _ aT=>(p aj (nl ?_))))))))
 refine tn (aT _ _ (U (fun _ aV=>(ab (.slice ar (a6 s).length aw) (ab (.int .i64 i) (p (aJ bA rfl rfl (by omega) (ak.ok (hS14.wk an) (bl (by omega)))) (p (ld bw rfl (bh.get (i:=i) (hS14.wk an) (by omega))) (e (cl D5 (Ko ((a6 s).getD i []) _ (by omega)) rfl fun bN w25 bb=> ?_)))))))))
 obtain ⟨aR,hE25⟩:=bb
 obtain ⟨aq,av,rfl⟩:=bU aR
 have hS25:=(aI aR).2
 have ah:Wk w14 w25:=Md.trans an hE25
 have hfl:=od ((a6 s).getD i []) []
 refine ae (((aV _ _ (sq (fun _ aN=>U (fun _ aW=>(p aj (nl ?_))))))))
 refine tn (aW _ _ (az (lp (fun al Z aM=> ∃ (j:Nat) (ax:Value),(j≤(bB [] ((a6 s).getD i [])).length)∧(∀ q,q < j→oJ ((bB [] ((a6 s).getD i [])).getD q [])=false)∧(Wk w25 aM)∧(World.ownsRow aM w25.heap.size 9 1 (ax) (((bB [] ((a6 s).getD i [])).take j)).length ((((bB [] ((a6 s).getD i [])).take j)).map str))∧(Z 4=J)∧(Z 5= .slice ar (a6 s).length aw)∧(Z 6= .int .i64 i)∧(Z 7=ax)∧(Z 8= .slice aq (bB [] ((a6 s).getD i [])).length av)∧(Z 9= .int .i64 j)∧((bB [] ((a6 s).getD i [])).length - j=al)) _ ⟨0,.slice none 0 0,(by omega),((fun q bo=>by omega)),(Md.refl _ _),(World.ownsRow_nil _ _ _ _),rfl,rfl,rfl,rfl,rfl,rfl,rfl⟩ ?_)))
 rintro al Z aM ⟨j,ax,hj,aK,A,O,bt,bu,bv,bx,bz,bC,rfl⟩
 refine fx 4 bt (fx 5 bu (fx 6 bv (fx 7 bx (fx 8 bz (fx 9 bC ?_)))))
 have hkl:((bB [] ((a6 s).getD i [])).take j).length≤j:=by rw [List.length_take]; omega
 have hszJ:=A.size
 refine sq (fun _ aX=>U (fun _ aO=>(ab (.int .i64 j) (ab (.slice aq (bB [] ((a6 s).getD i [])).length av) (p (ba c9 rfl rfl) (p (lt rfl rfl) (p mv ?_)))))))
 refine gs (t:=30) rfl (fun bk=> ?_) (fun bk=> ?_)
 refine pg rfl rfl rfl (aB (.slice aq (bB [] ((a6 s).getD i [])).length av) rfl) (pg rfl rfl rfl (aB (.int .i64 j) rfl) (pg rfl rfl rfl (aJ bA rfl rfl (by omega) (ak.ok (hS25.wk A) (bl (by omega)))) (pg rfl rfl rfl (ld bw rfl (bh.get (i:=j) (hS25.wk A) (by omega))) (pg rfl rfl rfl (fz 0 u9 rfl rfl (List.length_pos_iff.2 (ti _ _ _ (zq (by omega))).1)) (pg rfl rfl rfl (bP rfl rfl) (p (bf rfl) (nl ?_)))))))
 refine tn (aO _ _ (cd rfl (fun bi=> ?_) (fun bi=> ?_)))
 refine au (tn (aX _ _ (sq (fun _ ai=>az (rg rfl (ab (ax) (ab (.slice aq (bB [] ((a6 s).getD i [])).length av) (ab (.int .i64 j) ?_))))))))
 refine p (aJ bA rfl rfl (by omega) (ak.ok (hS25.wk A) (bl (by omega)))) (p (ld bw rfl (bh.get (i:=j) (hS25.wk A) (by omega))) (e (ea dU rfl rfl fun bF w45 bH aG a7=> ?_)))
 have hE45:Wk w25 w45:=Md.trans A aG.md
 refine e (ap dU (aE O aG.md) rfl (by have :=hE45.size; omega) rfl (ak.cQ a7) (rfl) (rfl) (by omega) (by omega) fun bE w46 bm hM46 bL bJ=> ?_)
 have hE46:=Wk.own hE45 (aE O aG.md) hM46 (Nat.le_refl _)
 have ho46x:=ji bm
 refine p aj (nl (bn (tn (ai _ _ (rg rfl (ab (.int .i64 j) (p (ad rfl rfl (bp (by omega))) (p aj ?_))))))))
 exact ag ((⟨_,by omega,j+1,bE,(by omega),((fun q bo=>by rcases Nat.lt_or_ge q j with h | h <;> first | exact aK q h | (rw [show q=j by omega]; exact decide_eq_false (by omega)))),hE46,((by rw [ef _ j [] (by omega)]; exact ho46x)),rfl,rfl,rfl,rfl,rfl,rfl,rfl⟩))
 have ao:jY (bB [] ((a6 s).getD i []))=((bB [] ((a6 s).getD i [])).take j):=qJ hj aK (.inr (decide_eq_true (by omega)))
 obtain ⟨E,G,rfl⟩:=bU O
 refine ext (te _ (te _ (be (tn (aN _ _ (U (fun _ ai=>(p (aB (.slice E ((bB [] ((a6 s).getD i [])).take j).length G) rfl) ?_))))))))
 refine p (ba c9 rfl rfl) (p (gt rfl rfl) (ag ((ai _ _ (cd rfl (fun Y=> ?_) (fun Y=> ?_))))))
 have M:g7 ((a6 s).getD i []) (1 +i)= [(i+1,((bB [] ((a6 s).getD i [])).take j))]:=by unfold g7; rw [ao,if_neg (fun h=>by rw [h] at Y; simp at Y),Nat.add_comm]
 refine rg rfl (ab (J) (ab (.int .i64 i) (p (a9 ((i+1:Nat):Int) rfl rfl (aQ (by omega) (by omega))) (p (aB (.slice E ((bB [] ((a6 s).getD i [])).take j).length G) rfl) (p (bY (ps:= [(0,aa (i+1)),(1,.slice E ((bB [] ((a6 s).getD i [])).take j).length G)]) (L:= [aa (i+1),.slice E ((bB [] ((a6 s).getD i [])).take j).length G]) BB rfl (rfl)) (e (ib rj rfl rfl rfl fun aC w55 bc C aD=> ?_)))))))
 have aF:bD w55.heap aC [aa (i+1),.slice E ((bB [] ((a6 s).getD i [])).take j).length G]:=aD
 have am:Wk w14 w55:=Md.trans ah (Md.trans A C.md)
 refine e (ap rj (aE (aE (aE I hE25) A) C.md) rfl (by have :=am.size; omega) rfl (ak.cQ aF) (rfl) (rfl) (by omega) (by omega) fun aL w56 aH V hz56 bj=> ?_)
 have hE56:=Wk.own am (aE (aE (aE I hE25) A) C.md) V (Nat.le_refl _)
 have hrw56:=((((hrw.wk hE25).wk A).wk C.md).md V (eN (aE (aE (aE I hE25) A) C.md) (by decide))).snoc (n:=i+1) (Tg.fT (fZ (bW (aE O C.md) V (fun k hk=>jh (aE O C.md) (aE (aE (aE I hE25) A) C.md) (by decide) hk)) (by have :=Md.size ah; omega)))
 refine p aj (nl (bn (tn (ac _ _ (rg rfl (ab (.int .i64 i) (p (ad rfl rfl (bp (by omega))) (p aj ?_))))))))
 exact ag ((⟨_,by omega,i+1,aL,vs++ [(i+1,.slice E ((bB [] ((a6 s).getD i [])).take j).length G)],(by omega),hE56,((by rw [ef _ i [] (by omega),jF,show ((a6 s).take i).length=i from by rw [List.length_take]; omega,M,List.length_append,uR]; exact aH)),((by rw [ef _ i [] (by omega),jF,show ((a6 s).take i).length=i from by rw [List.length_take]; omega,M]; exact hrw56)),rfl,rfl,rfl,rfl⟩))
 have M:∀ n,g7 ((a6 s).getD i []) n= []:=fun n=>by unfold g7; rw [ao,if_pos (List.length_eq_zero_iff.1 (by omega))]
 refine au (bn (tn (ac _ _ (rg rfl (ab (.int .i64 i) (p (ad rfl rfl (bp (by omega))) (p aj (nl ?_))))))))
 exact tn (⟨_,by omega,i+1,J,vs,(by omega),(Md.trans ah A),((by rw [ef _ i [] (by omega),jF,M,List.append_nil]; exact aE (aE I hE25) A)),((by rw [ef _ i [] (by omega),jF,M,List.append_nil]; exact (hrw.wk hE25).wk A)),rfl,rfl,rfl,rfl⟩)
 have ao:jY (bB [] ((a6 s).getD i []))=((bB [] ((a6 s).getD i [])).take j):=qJ hj aK (.inl (by omega))
 obtain ⟨E,G,rfl⟩:=bU O
 refine sk rfl rfl rfl rfl (sk rfl rfl rfl rfl (sk rfl rfl rfl rfl (sk rfl rfl rfl rfl (sk rfl rfl rfl rfl (sk rfl rfl rfl rfl (p (a4 rfl) (nl ?_)))))))
 refine tn (aO _ _ (cf rfl (ext (te _ (te _ (be (tn (aN _ _ (sq (fun _ ai=> ?_))))))))))
 refine rg rfl (p (aB (.slice E ((bB [] ((a6 s).getD i [])).take j).length G) rfl) (p (ba c9 rfl rfl) (p (gt rfl rfl) (ag ((ai _ _ (cd rfl (fun Y=> ?_) (fun Y=> ?_))))))))
 have M:g7 ((a6 s).getD i []) (1 +i)= [(i+1,((bB [] ((a6 s).getD i [])).take j))]:=by unfold g7; rw [ao,if_neg (fun h=>by rw [h] at Y; simp at Y),Nat.add_comm]
 refine rg rfl (ab (J) (ab (.int .i64 i) (p (a9 ((i+1:Nat):Int) rfl rfl (aQ (by omega) (by omega))) (p (aB (.slice E ((bB [] ((a6 s).getD i [])).take j).length G) rfl) (p (bY (ps:= [(0,aa (i+1)),(1,.slice E ((bB [] ((a6 s).getD i [])).take j).length G)]) (L:= [aa (i+1),.slice E ((bB [] ((a6 s).getD i [])).take j).length G]) BB rfl (rfl)) (e (ib rj rfl rfl rfl fun aC w55 bc C aD=> ?_)))))))
 have aF:bD w55.heap aC [aa (i+1),.slice E ((bB [] ((a6 s).getD i [])).take j).length G]:=aD
 have am:Wk w14 w55:=Md.trans ah (Md.trans A C.md)
 refine e (ap rj (aE (aE (aE I hE25) A) C.md) rfl (by have :=am.size; omega) rfl (ak.cQ aF) (rfl) (rfl) (by omega) (by omega) fun aL w56 aH V hz56 bj=> ?_)
 have hE56:=Wk.own am (aE (aE (aE I hE25) A) C.md) V (Nat.le_refl _)
 have hrw56:=((((hrw.wk hE25).wk A).wk C.md).md V (eN (aE (aE (aE I hE25) A) C.md) (by decide))).snoc (n:=i+1) (Tg.fT (fZ (bW (aE O C.md) V (fun k hk=>jh (aE O C.md) (aE (aE (aE I hE25) A) C.md) (by decide) hk)) (by have :=Md.size ah; omega)))
 refine p aj (nl (bn (tn (ac _ _ (rg rfl (ab (.int .i64 i) (p (ad rfl rfl (bp (by omega))) (p aj ?_))))))))
 exact ag ((⟨_,by omega,i+1,aL,vs++ [(i+1,.slice E ((bB [] ((a6 s).getD i [])).take j).length G)],(by omega),hE56,((by rw [ef _ i [] (by omega),jF,show ((a6 s).take i).length=i from by rw [List.length_take]; omega,M,List.length_append,uR]; exact aH)),((by rw [ef _ i [] (by omega),jF,show ((a6 s).take i).length=i from by rw [List.length_take]; omega,M]; exact hrw56)),rfl,rfl,rfl,rfl⟩))
 have M:∀ n,g7 ((a6 s).getD i []) n= []:=fun n=>by unfold g7; rw [ao,if_pos (List.length_eq_zero_iff.1 (by omega))]
 refine au (bn (tn (ac _ _ (rg rfl (ab (.int .i64 i) (p (ad rfl rfl (bp (by omega))) (p aj (nl ?_))))))))
 exact tn (⟨_,by omega,i+1,J,vs,(by omega),(Md.trans ah A),((by rw [ef _ i [] (by omega),jF,M,List.append_nil]; exact aE (aE I hE25) A)),((by rw [ef _ i [] (by omega),jF,M,List.append_nil]; exact (hrw.wk hE25).wk A)),rfl,rfl,rfl,rfl⟩)
 refine ext (te _ (te _ (be (tn (a1 _ _ (U (fun _ ac=>(ab (J) ?_))))))))
 refine p (bG (J) rfl) (ae (((ac _ _ (rt (f2 rfl rfl rfl ?_))))))
 have hl:¬65536 < s.length:=by omega
 rw [show (a6 s).take i=a6 s from List.take_of_length_le (by omega)] at I hrw
 exact ⟨⟨J,by show Value.tuple #[J,.int .i64 0]=_; rw [if_neg hl],by rw [if_neg hl]; exact ⟨vs,fZ I hE14.size,hrw.mono hE14.size⟩⟩,Md.trans hE14 an⟩
end Go.Hb.mi
end
section
set_option maxRecDepth 20000
set_option maxHeartbeats 1000000
namespace Go.Hb.mV
open Go.Hb.di
open Go.Proofs
open Go.Hb.ke Go.Hb.eS Go.Hb.fE Go.Hb.iQ Go.Hb.fN Go.Hb.iw Go.Hb.jN Go.Hb.kK Go.Hb.mW Go.Hb.gA Go.Hb.o7 Go.Hb.o6 Go.Hb.mi Go.Hb.gl Go.Hb.fQ
theorem oO {s:Tx} {k:Tx} {i:Nat} (h:s=k) (h1:k∈cJ) (h2:cJ.idxOf k=i):k9 s=(i:Nat):=by subst h; unfold k9; rw [if_pos h1,h2]
theorem La {s:Tx} (h:s∉cJ):k9 s= -1:=if_neg h
def ny:List Tx:= [eM,eZ,fk,gu,dD,db]
theorem B5 {s:Tx} (h:s∈cJ):width s=2:=if_pos (.inl h)
theorem L0 {s:Tx} (h:s∈ny):width s=2:=by
 unfold width
 rw [if_pos]
 simpa [ny] using Or.inr (List.mem_cons.1 h)
theorem B6 {s:Tx} (h:s=dP∨s=bO):width s=4:=by
 unfold width
 rw [if_neg,if_pos h]
 rcases h with rfl | rfl <;> decide
theorem L1 {s:Tx} (h:s∉cJ) (h1:s∉ny) (h2:s≠dP) (h3:s≠bO):width s=0:=by
 unfold width
 rw [if_neg,if_neg (by simp [h2,h3])]
 intro h4
 rcases h4 with h4 | h4
 · exact h h4
 · exact h1 (by simpa [ny] using h4)
theorem zu {F:aH} {V:ff} {i:Nat} (hi:i < 5):(jX F V).toArray[0 +3 +((i:Nat):Int).toNat*1]? =some (bq (F.sp.getD i 0)):=by
 match i,hi with
 | 0,_=>rfl
 | 1,_=>rfl
 | 2,_=>rfl
 | 3,_=>rfl
 | 4,_=>rfl
theorem Ah {x:Nat} {l:List Nat} (h:∀ j,j < l.length→l.getD j 0≠x):x∉l:=fun hm=>by
 obtain ⟨j,hj,e⟩:=k5 0 hm
 exact h j hj e
theorem Gz {x:Nat} :∀ {cs:List bV} {i:Nat} {c:bV},(∀ j,j < i→(cs.getD j jS).flag≠x)→cs[i]? =some c→c.flag=x→dJ cs x=some c:=by
 intro cs
 induction cs with
 | nil=>intro i c _ h; simp at h
 | cons a l ih=>
   intro i c p hi q
   unfold dJ
   rw [List.find?_cons]
   cases i with
   | zero=>simp only [List.getElem?_cons_zero,Option.some.injEq] at hi; subst hi; simp [q]
   | succ i=>
     have h0:=p 0 (by omega)
     simp only [List.getD_cons_zero] at h0
     rw [decide_eq_false h0]
     exact ih (i:=i) (fun j hj=>by have :=p (j+1) (by omega); simpa using this) (by simpa using hi) q
theorem GB {x:Nat} {cs:List bV} (h:∀ j,j < cs.length→(cs.getD j jS).flag≠x):dJ cs x=none:=by
 unfold dJ
 rw [List.find?_eq_none]
 intro c hc
 obtain ⟨j,hj,e⟩:=k5 jS hc
 have :=h j hj
 rw [e] at this
 simpa using this
theorem G8 (l:List bV):(lR l).length=l.length*5:=kq (f:=jx) (m:=5) (fun _=>rfl) _
theorem qA {l:List bV} (h:0 < l.length):lR l≠[]:=fun h2=>by have :=congrArg List.length h2; rw [G8] at this; simp at this; omega
theorem n8 {l:List bV} {i:Nat} (h:i < l.length):l[i]? =some (l.getD i jS):=by rw [List.getD_eq_getElem?_getD,List.getElem?_eq_getElem h]; rfl
theorem ye {F:aH} {x:Nat} (h:x∈F.sp):dw F x=true :=by unfold dw; rw [decide_eq_true h]; rfl
theorem yf {F:aH} {x:Nat} (h:x∉F.sp):dw F x=(dJ F.aX x).isSome:=by unfold dw; rw [decide_eq_false h]; rfl
theorem qX {s:Tx} (h:s∈cJ∨s=db∨s=dP∨s=bO):s∈hU:=by
 rcases h with h | rfl | rfl | rfl
 · have :∀ k∈cJ,k∈hU:=by decide
   exact this s h
 all_goals decide
theorem JC {s:Tx} (h:s∉cJ) (h1:s≠db) (h2:s≠dP) (h3:s≠bO):s∉hU:=by
 intro h4
 have :∀ k∈hU,k∈cJ∨k=db∨k=dP∨k=bO:=by decide
 rcases this s h4 with h5 | h5 | h5 | h5
 · exact h h5
 · exact h1 h5
 · exact h2 h5
 · exact h3 h5
theorem qY {seen:List Tx} (h:∀ j,j < seen.length→seen.getD j []∉hU):ordered seen=true :=by
 rw [uv]
 intro k hk a
 obtain ⟨j,hj,e⟩:=k5 [] a
 exact h j hj (e ▸ hk)
theorem tN (s:Tx) (w:World):
 aU Tryz.prog 78 (List.toArray [str s]) w (fun v w'=>v= .int .i64 (k9 s)∧w'=w):=by
 refine enter Tryz.func78 rfl Tryz.ntmps78 rfl ?_
 refine U (fun _ I=>(ae (((I _ _ (sq (fun _ J=>U (fun _ M=> ?_))))))))
 refine ab (str s) (ag ((M _ _ (az (U (fun _ O=>(p (cG rfl rfl) (p aj ?_))))))))
 refine ag ((O _ _ (cd rfl (fun G=> ?_) (fun G=> ?_))))
 refine U (fun _ a=>(ae (((a _ _ (rt (br (tr ?_))))))))
 exact f1 rfl rfl (⟨by rw [oO (k:=gv) (i:=0) G (by decide) (by decide)]; rfl,rfl⟩)
 refine U (fun _ a=>(p (cG rfl rfl) (ae (((a _ _ (cd rfl (fun hc6=> ?_) (fun hc6=> ?_))))))))
 refine U (fun _ j=>(ae (((j _ _ (rt (br (tr ?_))))))))
 exact f1 rfl rfl (⟨by rw [oO (k:=gF) (i:=1) hc6 (by decide) (by decide)]; rfl,rfl⟩)
 refine U (fun _ j=>(p (cG rfl rfl) (ae (((j _ _ (cd rfl (fun hc8=> ?_) (fun hc8=> ?_))))))))
 refine U (fun _ q=>(ae (((q _ _ (rt (br (tr ?_))))))))
 exact f1 rfl rfl (⟨by rw [oO (k:=gP) (i:=2) hc8 (by decide) (by decide)]; rfl,rfl⟩)
 refine U (fun _ q=>(p (cG rfl rfl) (ae (((q _ _ (cd rfl (fun hc10=> ?_) (fun hc10=> ?_))))))))
 refine U (fun _ A=>(ae (((A _ _ (rt (br (tr ?_))))))))
 exact f1 rfl rfl (⟨by rw [oO (k:=g6) (i:=3) hc10 (by decide) (by decide)]; rfl,rfl⟩)
 refine U (fun _ A=>(p (cG rfl rfl) (ae (((A _ _ (cd rfl (fun E=> ?_) (fun E=> ?_))))))))
 refine U (fun _ C=>(ae (((C _ _ (rt (br (tr ?_))))))))
 exact f1 rfl rfl (⟨by rw [oO (k:=im) (i:=4) E (by decide) (by decide)]; rfl,rfl⟩)
 refine au (bn (tn (J _ _ (U (fun _ C=>(ae (((C _ _ ?_)))))))))
 exact rt (f1 rfl rfl (⟨by rw [La (by unfold cJ; simp only [List.mem_cons,List.not_mem_nil,or_false,not_or]; exact ⟨G,hc6,hc8,hc10,E⟩)]; rfl,rfl⟩))
theorem Hu (s:Tx) (w:World):
 aU Tryz.prog 41 (List.toArray [str s]) w (fun v w'=>v=aa (width s)∧Wk w w'):=by
 refine enter Tryz.func41 rfl Tryz.ntmps41 rfl ?_
 refine U (fun _ Z=>(ae (((Z _ _ (U (fun _ ai=>(ab (str s) ?_))))))))
 refine e (cl sy (tN s w) rfl fun aq w5 hR5=> ?_)
 obtain ⟨rfl,ap⟩:=hR5
 have hE5:Wk w w5:=by rw [ap]; exact Md.refl _ _
 refine ae (((ai _ _ (sq (fun _ aj=>U (fun _ ak=>(p mv (p (ge rfl rfl) ?_))))))))
 refine ag ((ak _ _ (cd rfl (fun E=> ?_) (fun E=> ?_))))
 have hsp:=nz.1 E
 refine U (fun _ q=>(ae (((q _ _ (rt (tr (f1 rfl rfl ?_))))))))
 exact ⟨by rw [B5 hsp]; rfl,hE5⟩
 have hsp:s∉cJ:=fun h=>E (nz.2 h)
 refine au (tn (aj _ _ (sq (fun _ q=>U (fun _ al=>(ab (str s) (ag ((al _ _ ?_)))))))))
 refine az ?_
 refine cX (fun G O=> ∃ (b:Bool),(b=decide (s∈ny))∧(Wk w O)∧(G 8=str s)∧(G 9= .bool b)) ?_ ?_
 refine U (fun _ i=>(p (cG rfl rfl) (ae (((i _ _ (cd rfl (fun a=> ?_) (fun a=> ?_))))))))
 exact au (tn (⟨_,((by rw [a]; decide)),hE5,rfl,rfl⟩))
 refine U (fun _ am=>(p (cG rfl rfl) (ae (((am _ _ (cd rfl (fun a=> ?_) (fun a=> ?_))))))))
 exact au (tn (⟨_,((by rw [a]; decide)),hE5,rfl,rfl⟩))
 refine U (fun _ an=>(p (cG rfl rfl) (ae (((an _ _ (cd rfl (fun a=> ?_) (fun a=> ?_))))))))
 exact au (tn (⟨_,((by rw [a]; decide)),hE5,rfl,rfl⟩))
 refine U (fun _ ac=>(p (cG rfl rfl) (ae (((ac _ _ (cd rfl (fun a=> ?_) (fun a=> ?_))))))))
 exact au (tn (⟨_,((by rw [a]; decide)),hE5,rfl,rfl⟩))
 refine U (fun _ ah=>(p (cG rfl rfl) (ae (((ah _ _ (cd rfl (fun a=> ?_) (fun a=> ?_))))))))
 exact au (tn (⟨_,((by rw [a]; decide)),hE5,rfl,rfl⟩))
 exact rg rfl (p (cG rfl rfl) (ae (((⟨_,((by clear hsp; unfold ny; simp_all [eM,eZ,fk,gu,dD,db])),hE5,rfl,rfl⟩)))))
 rintro G O ⟨b,hb,C,J,M⟩
 refine fx 8 J (fx 9 M (cb rfl (fun a=> ?_) (fun a=> ?_)))
 refine U (fun _ i=>(ae (((i _ _ (rt (br (tr ?_))))))))
 exact f1 rfl rfl (⟨by rw [L0 (of_decide_eq_true (hb.symm.trans a))]; rfl,C⟩)
 refine cX (fun Y V=> ∃ (A:Bool),(A=decide (s=dP∨s=bO))∧(Wk w V)∧(Y 16= .bool A)) ?_ ?_
 refine U (fun _ i=>(p (cG rfl rfl) (ae (((i _ _ (cd rfl (fun j=> ?_) (fun j=> ?_))))))))
 exact au (tn (⟨_,((by rw [j]; decide)),C,rfl⟩))
 exact rg rfl (p (cG rfl rfl) (ae (((⟨_,((by clear hb J M; simp [dP,bO,j])),C,rfl⟩)))))
 rintro Y V ⟨A,hb2,I,ao⟩
 refine fx 16 ao (cb rfl (fun j=> ?_) (fun j=> ?_))
 refine U (fun _ i=>(ae (((i _ _ (rt (br (tr ?_))))))))
 exact f1 rfl rfl (⟨by rw [B6 (of_decide_eq_true (hb2.symm.trans j))]; rfl,I⟩)
 refine au (bn (tn (q _ _ (U (fun _ i=>(ae (((i _ _ ?_)))))))))
 refine rt (f1 rfl rfl ?_)
 have h9:=of_decide_eq_false (hb.symm.trans a)
 have h16:=of_decide_eq_false (hb2.symm.trans j)
 exact ⟨by rw [L1 hsp h9 (fun h=>h16 (.inl h)) (fun h=>h16 (.inr h))]; rfl,I⟩
theorem tO (B:Nat) (H:dZ) (k ln:Nat) (seen:List Tx) (vh:Value) (key:Tx) (w:World) (a:eG w B H k ln seen vh) (hsl:seen.length≤70000):
 aU Tryz.prog 42 (List.toArray [aG H.rb,str key]) w (fun v w'=>v= .bool (decide (key∈seen))∧w'=w):=by
 obtain ⟨al,am,rfl⟩:=bU a.hd
 refine enter Tryz.func42 rfl Tryz.ntmps42 rfl ?_
 refine U (fun _ E=>(ae (((E _ _ (sq (fun _ G=>U (fun _ I=> ?_))))))))
 refine ae (((I _ _ (az (lp (fun A q wI=> ∃ (i:Nat),(i≤seen.length)∧(∀ j,j < i→seen.getD j []≠key)∧(wI=w)∧(q 0=aG H.rb)∧(q 1=str key)∧(q 5=aa i)∧(seen.length - i=A)) _ ⟨0,(by omega),((fun j hj=>by omega)),rfl,rfl,rfl,rfl,rfl⟩ ?_)))))
 rintro A q wI ⟨i,hi,C,Y,ac,ah,ai,rfl⟩
 refine fx 0 ac (fx 1 ah (fx 5 ai ?_))
 subst Y
 refine sq (fun _ J=>U (fun _ M=>(ab (aa i) (ab (aG H.rb) (p (nc rfl) (p (fa kX rfl) (p (ld gd rfl ((aO a.cells).trans rfl)) ?_)))))))
 refine p (ba c9 rfl rfl) (p (lt rfl rfl) (ag ((M _ _ (cd rfl (fun Z=> ?_) (fun Z=> ?_))))))
 refine au (tn (J _ _ (sq (fun _ s=>az (U (fun _ O=>(ab (aG H.rb) (p (nc rfl) ?_))))))))
 refine p (fa kX rfl) (p (ld gd rfl ((aO a.cells).trans rfl)) (ab (aa i) (p (aJ bA rfl rfl (by omega) (ak.ok ((aI a.hd).2) (bl (by omega)))) (p (ld bw rfl (bh.get (i:=i) (aI a.hd).2 (by omega))) (ab (str key) (p (cG rfl rfl) (nl ?_)))))))
 refine tn (O _ _ (cd rfl (fun hc23=> ?_) (fun hc23=> ?_)))
 refine U (fun _ V=>(ae (((V _ _ (rt (br (tr ?_))))))))
 exact tr (br (tr (f1 rfl rfl (⟨by rw [decide_eq_true (show key∈seen from hc23 ▸ c6 (by omega))]; rfl,rfl⟩))))
 refine au (bn (tn (s _ _ (rg rfl (ab (aa i) (p (ad rfl rfl (bp (by omega))) (p aj (nl ?_))))))))
 exact tn (⟨_,by omega,i+1,(by omega),((fun j hj=>by rcases Nat.lt_or_ge j i with h | h <;> first | exact C j h | (rw [show j=i by omega]; exact hc23))),rfl,rfl,rfl,rfl,rfl⟩)
 refine ext (te _ (te _ (be (tn (G _ _ (U (fun _ s=>(p aj ?_))))))))
 exact ag ((s _ _ (rt (f1 rfl rfl (⟨by rw [decide_eq_false (show ¬key∈seen from fun h=>by obtain ⟨j,hj,e⟩:=k5 [] h; exact C j (by omega) e)]; rfl,rfl⟩)))))
theorem tG (B B0 fb:Nat) (F:aH) (V:ff) (x:Nat) (w:World) (I:dz w B B0 fb F V) (aF:F.aX.length≤70000):
 aU Tryz.prog 44 (List.toArray [aG fb,bq x]) w (fun v w'=>v= .tuple #[.agg (jx ((dJ F.aX x).getD jS)).toArray,.bool (dJ F.aX x).isSome]∧Wk w w'):=by
 obtain ⟨an,gh,M⟩:=bU I.dp
 refine enter Tryz.func44 rfl Tryz.ntmps44 rfl ?_
 refine U (fun _ O=>(e (al mR fun ao w4 aE s G=> ?_)))
 have hF:=I.wk s.md
 have A:Hb.aC w4.heap fb 11=some (.slice an F.aX.length gh):=by rw [← M]; exact (aO hF.cells).trans rfl
 have ho11:=hF.dp
 rw [M] at ho11
 refine ae (((O _ _ (sq (fun _ Y=>U (fun _ Z=>(p aj (nl ?_))))))))
 refine tn (Z _ _ (az (lp (fun E a wI=> ∃ (i:Nat),(i≤F.aX.length)∧(∀ j,j < i→(F.aX.getD j jS).flag≠x)∧(wI=w4)∧(a 0=aG fb)∧(a 1=bq x)∧(a 4=aG ao)∧(a 6=aa i)∧(F.aX.length - i=E)) _ ⟨0,(by omega),((fun j hj=>by omega)),rfl,rfl,rfl,rfl,rfl,rfl⟩ ?_)))
 rintro E a wI ⟨i,hi,C,ar,ay,aA,aB,aD,rfl⟩
 refine fx 0 ay (fx 1 aA (fx 4 aB (fx 6 aD ?_)))
 subst ar
 refine sq (fun _ ac=>U (fun _ ah=>(ab (aa i) (ab (aG fb) (p (nc rfl) (p (fa kW rfl) (p (ld lC rfl (A)) ?_)))))))
 refine p (ba vd rfl rfl) (p (lt rfl rfl) (ag ((ah _ _ (cd rfl (fun ax=> ?_) (fun ax=> ?_))))))
 refine au (tn (ac _ _ (sq (fun _ q=>az (U (fun _ ai=>(ab (aG fb) (p (nc rfl) ?_))))))))
 refine p (fa kW rfl) (p (ld lC rfl (A)) (ab (aa i) (p (aJ qd rfl rfl (by omega) (ak.ok ((aI ho11).2) (qA (by omega)))) (p (fa tu rfl) (p (ld bQ rfl (gi (f:=jx) (m:=5) (fun _=>rfl) (aI ho11).2 (n8 (by omega :i < F.aX.length)) 0 (by decide))) (ab (bq x) (p (a8 rfl rfl) ?_)))))))
 refine ag ((ai _ _ (cd rfl (fun J=> ?_) (fun J=> ?_))))
 refine U (fun _ am=>(ab (aG fb) (p (nc rfl) (p (fa kW rfl) (p (ld lC rfl (A)) (ab (aa i) (p (aJ qd rfl rfl (by omega) (ak.ok ((aI ho11).2) (qA (by omega)))) ?_)))))))
 refine p (dx mX rfl (rfl) (gi (f:=jx) (m:=5) (fun _=>rfl) (aI ho11).2 (n8 (by omega :i < F.aX.length)))) (e (bX lL rfl rfl rfl rfl (G) (by simp) fun aK av ap=>ae (((am _ _ (rt (br (tr ?_))))))))
 exact tr (br (tr (dO rfl (c8 (cs:=jx (F.aX.getD i jS)) rfl mX rfl (fun j hj=>ap.c5 j)) dE (⟨by rw [Gz C (n8 (by omega)) (by omega)]; rfl,s.md.trans' av (fun k hk h=>by omega)⟩))))
 refine au (bn (tn (q _ _ (rg rfl (ab (aa i) (p (ad rfl rfl (bp (by omega))) (p aj (nl ?_))))))))
 exact tn (⟨_,by omega,i+1,(by omega),((fun j hj=>by rcases Nat.lt_or_ge j i with h | h <;> first | exact C j h | (rw [show j=i by omega]; exact fun h2=>J (by rw [h2])))),rfl,rfl,rfl,rfl,rfl,rfl⟩)
 refine ext (te _ (te _ (be (tn (Y _ _ (U (fun _ q=>(p (bY (ps:= []) (L:= [.int .i64 0,.int .i64 0,.bool false,.int .i64 0,.int .i64 0]) BA rfl (rfl)) ?_))))))))
 exact e (bX lL rfl rfl rfl rfl (G) (by simp) fun aL aw aq=>ae (((q _ _ (rt (dO rfl (c8 (cs:=jx jS) rfl mX rfl (fun j hj=>aq.c5 j)) dE (⟨by rw [GB (fun j hj=>C j (by omega))]; rfl,s.md.trans' aw (fun k hk h=>by omega)⟩)))))))
theorem G9 (B B0 fb:Nat) (F:aH) (V:ff) (x:Nat) (w:World) (hF:dz w B B0 fb F V) (am:F.aX.length≤70000):
 aU Tryz.prog 107 (List.toArray [aG fb,bq x]) w (fun v w'=>v= .bool (dw F x)∧Wk w w'):=by
 have hsp5:=hF.ee
 refine enter Tryz.func107 rfl Tryz.ntmps107 rfl ?_
 refine U (fun _ G=>(ae (((G _ _ (sq (fun _ I=>U (fun _ J=> ?_))))))))
 refine ae (((J _ _ (az (lp (fun A a wI=> ∃ (i:Nat),(i≤5)∧(∀ j,j < i→F.sp.getD j 0≠x)∧(wI=w)∧(a 0=aG fb)∧(a 1=bq x)∧(a 5=aa i)∧(5 - i=A)) _ ⟨0,(by omega),((fun j hj=>by omega)),rfl,rfl,rfl,rfl,rfl⟩ ?_)))))
 rintro A a wI ⟨i,hi,E,Z,an,ao,ap,rfl⟩
 refine fx 0 an (fx 1 ao (fx 5 ap ?_))
 subst Z
 refine sq (fun _ M=>U (fun _ O=>(ab (aa i) (p (lt rfl rfl) (ag ((O _ _ (cd rfl (fun ak=> ?_) (fun ak=> ?_)))))))))
 refine au (tn (M _ _ (sq (fun _ q=>az (U (fun _ s=>(ab (aG fb) (ab (aa i) ?_))))))))
 refine p (nc rfl) (p (fa qn rfl) (p (il pC rfl rfl (by omega)) (p (ld bQ rfl ((aO hF.cells).trans (zu (i:=i) (by omega)))) (ab (bq x) (p (a8 rfl rfl) (ag ((s _ _ ?_))))))))
 refine cd rfl (fun C=> ?_) (fun C=> ?_)
 refine U (fun _ Y=>(ae (((Y _ _ (rt (br (tr ?_))))))))
 exact tr (br (tr (f1 rfl rfl (⟨by rw [ye (show x∈F.sp from by obtain rfl :F.sp.getD i 0=x:=(by omega); exact c6 (by omega))]; rfl,Md.refl _ _⟩))))
 refine au (bn (tn (q _ _ (rg rfl (ab (aa i) (p (ad rfl rfl (bp (by omega))) (p aj (nl ?_))))))))
 exact tn (⟨_,by omega,i+1,(by omega),((fun j hj=>by rcases Nat.lt_or_ge j i with h | h <;> first | exact E j h | (rw [show j=i by omega]; exact fun h2=>C (by rw [h2])))),rfl,rfl,rfl,rfl,rfl⟩)
 refine ext (te _ (te _ (be (tn (I _ _ (U (fun _ q=>(ab (aG fb) ?_))))))))
 refine ab (bq x) (e (cl su (tG B B0 fb F V x wI hF am) rfl fun av w23 ai=> ?_))
 obtain ⟨rfl,hE23⟩:=ai
 have hz23:=hE23.size
 refine p mv (p (xt rfl rfl) (p (xt rfl rfl) (e (al mR fun aq w6 hb6 ah hB6=>e (bX lL rfl rfl rfl rfl (hB6) (by simp) fun aw ac ar=>ae (((q _ _ ?_))))))))
 refine U (fun _ s=>(p mv (ae (((s _ _ (rt (f1 rfl rfl ?_))))))))
 exact ⟨by rw [yf (Ah (fun j hj=>E j (by omega)))]; rfl,(hE23.trans ah.md).trans' ac (fun k hk h=>by omega)⟩
theorem tH (s:Tx) (w:World) (hs:s.length≤1048576):
 aU Tryz.prog 141 (List.toArray [str s]) w (fun v w'=>v=aa (eX s)∧Wk w w'):=by
 refine enter Tryz.func141 rfl Tryz.ntmps141 rfl ?_
 refine U (fun _ E=>(ae (((E _ _ (U (fun _ G=>(ab (str s) ?_))))))))
 refine e (cl nZ (oH s w hs) rfl fun M w5 hR5=> ?_)
 obtain ⟨rfl,hE5⟩:=hR5
 refine ae (((G _ _ (sq (fun _ I=>U (fun _ A=>(ab (str s) (p (bI u9 rfl rfl) ?_))))))))
 refine p (a8 rfl rfl) (p mv (gs (t:=9) rfl (fun hg9=> ?_) (fun hg9=> ?_)))
 have hnil:=List.eq_nil_of_length_eq_zero (show s.length=0 by omega)
 refine sk rfl rfl rfl rfl (sk rfl rfl rfl rfl (p (bf rfl) (ag ((A _ _ (ct rfl (U (fun _ a=> ?_))))))))
 exact ae (((a _ _ (rt (tr (f1 rfl rfl (⟨by rw [qi (.inl hnil)]; rfl,hE5⟩)))))))
 have C:s≠[]:=fun h=>hg9 (by rw [h]; rfl)
 refine pg rfl rfl rfl mv (pg rfl rfl rfl (no rfl) (p (a4 rfl) (ag ((A _ _ (cb rfl (fun i=> ?_) (fun i=> ?_)))))))
 refine U (fun _ a=>(ae (((a _ _ (rt (tr (f1 rfl rfl ?_))))))))
 have hb0:eh s=false :=by simpa using i
 exact ⟨by rw [qi (.inr hb0)]; rfl,hE5⟩
 refine au (tn (I _ _ (sq (fun _ a=>U (fun _ J=>(ab (str s) (p (bI u9 rfl rfl) (p (gt rfl rfl) ?_))))))))
 refine ag ((J _ _ (cd rfl (fun hc15=> ?_) (fun hc15=> ?_))))
 refine U (fun _ j=>(ae (((j _ _ (rt (tr (f1 rfl rfl ?_))))))))
 have q:eh s=true :=by simpa using i
 exact ⟨by rw [yQ C q (by omega)]; rfl,hE5⟩
 refine au (tn (a _ _ (U (fun _ j=>(ae (((j _ _ (rt ?_)))))))))
 refine f1 rfl rfl ?_
 have q:eh s=true :=by simpa using i
 exact ⟨by rw [yR C q (by omega)]; rfl,hE5⟩
theorem tK (s:Tx) (C:Bool) (w:World) (hs:s.length≤1048576):
 aU Tryz.prog 125 (List.toArray [str s,.bool C]) w (fun v w'=>(∃ (a:Tx) (e:Nat),v= .tuple #[str a,aa e]∧((dq C s= .ok a∧e=0)∨(dq C s= .error e∧e≠0)))∧Wk w w'):=by
 have hwl:=mQ s
 refine enter Tryz.func125 rfl Tryz.ntmps125 rfl ?_
 refine U (fun _ ah=>(p aj (ae (((ah _ _ (sq (fun _ Z=>sq (fun _ ac=> ?_)))))))))
 refine rg rfl (ab (.bool C) (ab (.bool C) (gb (t:=11) rfl (fun hg11=> ?_) (fun hg11=> ?_))))
 refine pg rfl rfl rfl (aB (str s) rfl) (pg rfl rfl rfl (cG rfl rfl) (p (bf rfl) (ag ((ac _ _ (cd rfl (fun Y=> ?_) (fun Y=> ?_)))))))
 refine U (fun _ E=>(p aj (ae (((E _ _ (rt (tr ?_))))))))
 exact f2 rfl rfl rfl (⟨⟨[],0,rfl,.inl ⟨by rw [hg11]; exact AI Y,rfl⟩⟩,Md.refl _ _⟩)
 have j:dq C s=dq false s:=by rw [hg11]; exact uD Y
 refine au (tn (Z _ _ (U (fun _ E=>(ab (str s) (e (cl pN (q8 s w hs) rfl fun ai w17 O=> ?_)))))))
 obtain ⟨rfl,hE17⟩:=O
 refine p mv (p (xt rfl rfl) (p (xt rfl rfl) (p (xt rfl rfl) (p (xt rfl rfl) (p aj (p aj (p aj ?_)))))))
 refine ae (((E _ _ (sq (fun _ G=>U (fun _ I=>(p mv (p (bP rfl rfl) ?_))))))))
 refine ag ((I _ _ (cd rfl (fun hc23=> ?_) (fun hc23=> ?_))))
 refine U (fun _ q=>(p mv (p aj (ae (((q _ _ (rt ?_))))))))
 exact tr (f2 rfl rfl rfl (⟨⟨[],_,rfl,.inr ⟨j.trans (uz (by omega)),by omega⟩⟩,hE17⟩))
 refine au (tn (G _ _ (sq (fun _ q=>U (fun _ J=>(p mv (ag ((J _ _ ?_)))))))))
 refine cb rfl (fun i=> ?_) (fun i=> ?_)
 refine U (fun _ A=>(p aj (ae (((A _ _ (rt (tr ?_))))))))
 exact f2 rfl rfl rfl (⟨⟨[],114,rfl,.inr ⟨j.trans (uA (by omega) i),by decide⟩⟩,hE17⟩)
 refine au (tn (q _ _ (U (fun _ A=>(p mv (p mv (e (cl sh (tH (aV s).1 w17 (by omega)) rfl fun ak w28 V=> ?_))))))))
 obtain ⟨rfl,M⟩:=V
 refine p aj (ae (((A _ _ (rt (f2 rfl rfl rfl ?_))))))
 refine ⟨⟨(aV s).1,eX (aV s).1,rfl,?_⟩,hE17.trans M⟩
 by_cases h:eX (aV s).1=0
 exact .inl ⟨j.trans (uC (by omega) i h),h⟩
 exact .inr ⟨j.trans (uB (by omega) i h),h⟩
 have j:dq C s=dq false s:=by rw [hg11]
 refine sk rfl rfl rfl rfl (sk rfl rfl rfl rfl (p (a4 rfl) (ag ((ac _ _ (cf rfl (au (tn (Z _ _ ?_)))))))))
 refine U (fun _ E=>(ab (str s) (e (cl pN (q8 s w hs) rfl fun ai w17 O=> ?_))))
 obtain ⟨rfl,hE17⟩:=O
 refine p mv (p (xt rfl rfl) (p (xt rfl rfl) (p (xt rfl rfl) (p (xt rfl rfl) (p aj (p aj (p aj ?_)))))))
 refine ae (((E _ _ (sq (fun _ G=>U (fun _ I=>(p mv (p (bP rfl rfl) ?_))))))))
 refine ag ((I _ _ (cd rfl (fun hc23=> ?_) (fun hc23=> ?_))))
 refine U (fun _ q=>(p mv (p aj (ae (((q _ _ (rt ?_))))))))
 exact tr (f2 rfl rfl rfl (⟨⟨[],_,rfl,.inr ⟨j.trans (uz (by omega)),by omega⟩⟩,hE17⟩))
 refine au (tn (G _ _ (sq (fun _ q=>U (fun _ J=>(p mv (ag ((J _ _ ?_)))))))))
 refine cb rfl (fun i=> ?_) (fun i=> ?_)
 refine U (fun _ A=>(p aj (ae (((A _ _ (rt (tr ?_))))))))
 exact f2 rfl rfl rfl (⟨⟨[],114,rfl,.inr ⟨j.trans (uA (by omega) i),by decide⟩⟩,hE17⟩)
 refine au (tn (q _ _ (U (fun _ A=>(p mv (p mv (e (cl sh (tH (aV s).1 w17 (by omega)) rfl fun ak w28 V=> ?_))))))))
 obtain ⟨rfl,M⟩:=V
 refine p aj (ae (((A _ _ (rt (f2 rfl rfl rfl ?_))))))
 refine ⟨⟨(aV s).1,eX (aV s).1,rfl,?_⟩,hE17.trans M⟩
 by_cases h:eX (aV s).1=0
 exact .inl ⟨j.trans (uC (by omega) i h),h⟩
 exact .inr ⟨j.trans (uB (by omega) i h),h⟩
theorem zr (B fb:Nat) (F:aH) (V:ff) (s:Tx) (w:World) (hF:jO w B 0 fb F V) (hk:F.kind=1∨F.kind=2∨F.kind=3) (ar:F.aliases.length≤70000) (hs:s.length≤1048576):
 aU Tryz.prog 85 (List.toArray [aG fb,str s]) w (fun v w'=>(∃ (a:Value) (e:Nat),v= .tuple #[a,aa e]∧a.oneCell'=true∧((∃ l,e=0∧ec F.kind F.aliases s= .ok l∧Tg w' 0 3 l.length a (l.map bq))∨(e≠0∧ec F.kind F.aliases s= .error e)))∧Wk w w'):=by
 obtain ⟨ah,gD,J⟩:=bU hF.dH
 have ho10:=hF.dH
 rw [J] at ho10
 have hc10:Hb.aC w.heap fb 10=some (.slice ah F.aliases.length gD):=by rw [← J]; exact (aO hF.cells).trans rfl
 refine enter Tryz.func85 rfl Tryz.ntmps85 rfl ?_
 refine U (fun _ M=>(p aj (ae (((M _ _ (sq (fun _ O=>sq (fun _ Y=> ?_)))))))))
 refine rg rfl (ab (aG fb) (p (nc rfl) (p (fa oh rfl) (p (ld pj rfl (hc10)) (p (ba BN rfl rfl) (p (a8 rfl rfl) (nl ?_)))))))
 refine tn (Y _ _ (cd rfl (fun A=> ?_) (fun A=> ?_)))
 have i:F.aliases= []:=List.eq_nil_of_length_eq_zero (by omega)
 refine U (fun _ q=>(ab (aG fb) (p (nc rfl) (p (fa nd rfl) (p (ld bQ rfl ((aO hF.cells).trans rfl)) (ab (str s) (e (cl wY (AZ F.kind s _ hk hs) rfl fun av w19 ai=> ?_))))))))
 obtain ⟨⟨aq,rfl,I⟩,hE19⟩:=ai
 refine p (xt rfl rfl) (p (xt rfl rfl) (p aj (ae (((q _ _ (rt (tr ?_))))))))
 refine f2 rfl rfl rfl ?_
 obtain ⟨ac,c0,rfl⟩:=bU I
 refine ⟨⟨_,_,rfl,rfl,?_⟩,hE19⟩
 by_cases h:(cU F.kind s).2=0
 exact .inl ⟨_,h,by rw [qk i]; exact qy h,(Tg.fT I).mono (Nat.zero_le _)⟩
 exact .inr ⟨h,by rw [qk i]; exact qw h⟩
 have i:F.aliases≠[]:=fun h=>by rw [h] at A; exact A rfl
 refine au (tn (O _ _ (U (fun _ q=>(ab (str s) (ab (aG fb) (p (nc rfl) (p (fa oh rfl) ?_))))))))
 refine p (ld pj rfl (hc10)) (p (ba BN rfl rfl) (e (cl mu (mM s (F.aliases.length:Nat) _ hs (by omega)) rfl fun aw w29 am=> ?_)))
 obtain ⟨rfl,hE29⟩:=am
 refine p mv (p (xt rfl rfl) (p (xt rfl rfl) (p aj (ae (((q _ _ (sq (fun _ Z=> ?_)))))))))
 refine U (fun _ E=>(p mv (p (bP rfl rfl) (p mv (gs (t:=34) rfl (fun ao=> ?_) (fun ao=> ?_))))))
 refine sk rfl rfl rfl rfl (sk rfl rfl rfl rfl (p (bf rfl) (ag ((E _ _ (ct rfl (U (fun _ j=> ?_))))))))
 exact p aj (ae (((j _ _ (rt (tr (f2 rfl rfl rfl (⟨⟨.slice none 0 0,13,rfl,rfl,.inr ⟨by decide,yX i (k8 (by omega)).1⟩⟩,hE29⟩))))))))
 refine pg rfl rfl rfl mv (pg rfl rfl rfl (a8 rfl rfl) (p (a4 rfl) (ag ((E _ _ (cd rfl (fun an=> ?_) (fun an=> ?_)))))))
 refine U (fun _ j=>(p aj (ae (((j _ _ (rt (tr ?_))))))))
 refine f2 rfl rfl rfl ?_
 have hnx:=j4 (by omega :(cH s (F.aliases.length:Nat)).2=0)
 rw [show (cH s (F.aliases.length:Nat)).1=0 from by omega] at hnx
 exact ⟨⟨.slice none 0 0,13,rfl,rfl,.inr ⟨by decide,yZ i hnx⟩⟩,hE29⟩
 refine au (tn (Z _ _ (sq (fun _ j=> ?_))))
 have hnx:=j4 (by omega :(cH s (F.aliases.length:Nat)).2=0)
 have hnle:=lY s (F.aliases.length:Nat) (by omega)
 have ap:(cH s (F.aliases.length:Nat)).1 - 1 < F.aliases.length:=by omega
 obtain ⟨ax,C,G⟩:=e9.get (hF.al.wk hE29) ap
 refine rg rfl (ab (aG fb) (p (nc rfl) (p (fa oh rfl) (p (ld pj rfl (Wk.aC hE29 hc10)) (p mv (p (cI (((cH s (F.aliases.length:Nat)).1 - 1:Nat):Int) rfl rfl (aQ (by omega) (by omega))) (p (aJ Gp rfl rfl (by omega) (ak.ok ((aI (aE ho10 hE29)).2) (fun h=>by rw [h] at C; cases C))) ?_)))))))
 refine p (ld nT rfl (ak.gC (aI (aE ho10 hE29)).2 C)) (p aj (ae (((j _ _ (rt (f2 rfl rfl rfl ?_)))))))
 obtain ⟨ac,c0,rfl⟩:=G.slice
 exact ⟨⟨_,0,rfl,rfl,.inl ⟨_,rfl,yY i hnx (by omega),G⟩⟩,hE29⟩
theorem zt (B:Nat) (H:dZ) (F:aH) (V:ff) (k ln:Nat) (seen:List Tx) (vh:Value) (s:Tx) (w:World) (hF:dz w B 0 H.fb F V) (A:eG w B H k ln seen vh) (hk:F.kind=1∨F.kind=2∨F.kind=3) (ac:F.aX.length≤70000) (hs:s.length≤1048576):
 aU Tryz.prog 79 (List.toArray [aG H.rb,str s]) w (fun v w'=>(∃ x e:Nat,v= .tuple #[bq x,aa e]∧((eC F s= .ok x∧x≠0∧e=0)∨(eC F s= .error e∧e≠0)))∧Wk w w'):=by
 refine enter Tryz.func79 rfl Tryz.ntmps79 rfl ?_
 refine U (fun _ C=>(p aj (ae (((C _ _ (U (fun _ E=> ?_))))))))
 refine ab (aG H.rb) (p (nc rfl) (p (fa ik rfl) (p (ld h8 rfl ((aO A.cells).trans rfl)) (p (nc rfl) (p (fa nd rfl) (p (ld bQ rfl ((aO hF.cells).trans rfl)) (ab (str s) ?_)))))))
 refine e (cl Da (Ku F.kind s w hk hs) rfl fun ah w18 O=> ?_)
 obtain ⟨rfl,a⟩:=O
 refine p mv (p (xt rfl rfl) (p (xt rfl rfl) (p aj (ae (((E _ _ (sq (fun _ G=> ?_)))))))))
 refine U (fun _ I=>(p mv (p (bP rfl rfl) (ag ((I _ _ (cd rfl (fun Z=> ?_) (fun Z=> ?_))))))))
 refine U (fun _ i=>(p mv (p aj (ae (((i _ _ (rt ?_))))))))
 exact tr (f2 rfl rfl rfl (⟨⟨0,(eB F.kind s).2,rfl,.inr ⟨zl (by omega),by omega⟩⟩,a⟩))
 refine au (tn (G _ _ (U (fun _ i=>(ab (aG H.rb) (p (nc rfl) (p (fa ik rfl) (p (ld h8 rfl ((aO (A.wk a).cells).trans rfl)) ?_))))))))
 refine p mv (e (cl Db (G9 B 0 H.fb F V (eB F.kind s).1 w18 (hF.wk a) ac) rfl fun ai w29 Y=> ?_))
 obtain ⟨rfl,hE29⟩:=Y
 refine ae (((i _ _ (sq (fun _ J=>U (fun _ M=>(p mv (nl ?_))))))))
 refine tn (M _ _ (cb rfl (fun q=> ?_) (fun q=> ?_)))
 refine U (fun _ j=>(p aj (ae (((j _ _ (rt (tr ?_))))))))
 exact f2 rfl rfl rfl (⟨⟨0,115,rfl,.inr ⟨zm (by omega) q,by decide⟩⟩,a.trans hE29⟩)
 refine au (tn (J _ _ (U (fun _ j=>(p mv (p aj (p aj (nl ?_))))))))
 exact tn (j _ _ (rt (f2 rfl rfl rfl (⟨⟨_,0,rfl,.inl ⟨zn (by omega) q,ze (by omega),rfl⟩⟩,a.trans hE29⟩))))
theorem Hr (w1:World) (H:dZ) (F:aH) (k ln:Nat) (seen r:List Tx) (av:Nat) (O:Option Addr) (Y:Nat) (w:World) (aF:iT w1 w H F k ln seen) (hT:Tg w av 9 r.length (.slice O r.length Y) (r.map str)) (hr:r.length=2) (hrl:∀ x∈r,x.length≤70000):
 aU Tryz.prog 80 (List.toArray [aG H.rb,.slice O r.length Y]) w (dR w1 H seen (gQ F seen (H.rows.drop k) ln r)):=by
 obtain ⟨V,vh,hF,a,hB,s,hkl⟩:=aF
 have hTs:=hT.bH
 have hlo:=a.lo
 have hbl:=hB.len
 obtain ⟨aQ,aR,rfl⟩:=bU a.hd
 have hsl:=hB.sl
 refine enter Tryz.func80 rfl Tryz.ntmps80 rfl ?_
 refine U (fun _ aw=>(ae (((aw _ _ (sq (fun _ ax=>U (fun _ ay=> ?_))))))))
 refine ae (((ay _ _ (az (lp (fun ar ac wI=> ∃ (i:Nat),(i≤seen.length)∧(∀ j,j < i→seen.getD j []∉hU)∧(wI=w)∧(ac 0=aG H.rb)∧(ac 1= .slice O r.length Y)∧(ac 5=aa i)∧(seen.length - i=ar)) _ ⟨0,(by omega),((fun j hj=>by omega)),rfl,rfl,rfl,rfl,rfl⟩ ?_)))))
 rintro ar ac wI ⟨i,hi,M,aD,aL,aM,aN,rfl⟩
 refine fx 0 aL (fx 1 aM (fx 5 aN ?_))
 subst aD
 refine sq (fun _ aA=>U (fun _ aC=>(ab (aa i) (ab (aG H.rb) (p (nc rfl) (p (fa kX rfl) (p (ld gd rfl ((aO a.cells).trans rfl)) ?_)))))))
 refine p (ba c9 rfl rfl) (p (lt rfl rfl) (ag ((aC _ _ (cd rfl (fun aK=> ?_) (fun aK=> ?_))))))
 refine au (tn (aA _ _ (sq (fun _ G=>az (U (fun _ al=>(ab (aG H.rb) (p (nc rfl) ?_))))))))
 refine p (fa kX rfl) (p (ld gd rfl ((aO a.cells).trans rfl)) (ab (aa i) (p (aJ bA rfl rfl (by omega) (ak.ok ((aI a.hd).2) (bl (by omega)))) (p (ld bw rfl (bh.get (i:=i) (aI a.hd).2 (by omega))) (e (cl sy (tN (seen.getD i []) wI) rfl fun aS w23 aE=> ?_))))))
 obtain ⟨rfl,aP⟩:=aE
 subst aP
 refine ae (((al _ _ (U (fun _ E=>(p mv (p (ge rfl rfl) (p mv ?_))))))))
 refine gs (t:=26) rfl (fun ao=> ?_) (fun ao=> ?_)
 refine sk rfl rfl rfl rfl (sk rfl rfl rfl rfl (sk rfl rfl rfl rfl (sk rfl rfl rfl rfl (sk rfl rfl rfl rfl (sk rfl rfl rfl rfl (sk rfl rfl rfl rfl (sk rfl rfl rfl rfl ?_)))))))
 refine p (bf rfl) (p mv (sk rfl rfl rfl rfl (sk rfl rfl rfl rfl (sk rfl rfl rfl rfl (sk rfl rfl rfl rfl (sk rfl rfl rfl rfl (sk rfl rfl rfl rfl ?_)))))))
 refine sk rfl rfl rfl rfl (sk rfl rfl rfl rfl (p (bf rfl) (p mv (sk rfl rfl rfl rfl (sk rfl rfl rfl rfl (sk rfl rfl rfl rfl (sk rfl rfl rfl rfl ?_)))))))
 refine sk rfl rfl rfl rfl (sk rfl rfl rfl rfl (sk rfl rfl rfl rfl (sk rfl rfl rfl rfl (p (bf rfl) (ag ((E _ _ (ct rfl ?_))))))))
 refine U (fun _ q=>(ae (((q _ _ (rt (br (tr ?_))))))))
 exact tr (br (tr (f1 rfl rfl (⟨.inr ⟨ln,113,ot (k:=seen.getD i []) (qX (.inl (nz.1 ao))) (c6 (by omega)),by decide,rfl,a.bK⟩,s⟩))))
 refine pg rfl rfl rfl (aB (aG H.rb) rfl) (pg rfl rfl rfl (nc rfl) (pg rfl rfl rfl (fa kX rfl) (pg rfl rfl rfl (ld gd rfl ((aO a.cells).trans rfl)) (pg rfl rfl rfl (aB (aa i) rfl) (pg rfl rfl rfl (aJ bA rfl rfl (by omega) (ak.ok ((aI a.hd).2) (bl (by omega)))) (pg rfl rfl rfl (ld bw rfl (bh.get (i:=i) (aI a.hd).2 (by omega))) (pg rfl rfl rfl (cG rfl rfl) ?_)))))))
 refine p (a4 rfl) (p mv (gs (t:=36) rfl (fun ap=> ?_) (fun ap=> ?_)))
 refine sk rfl rfl rfl rfl (sk rfl rfl rfl rfl (sk rfl rfl rfl rfl (sk rfl rfl rfl rfl (sk rfl rfl rfl rfl (sk rfl rfl rfl rfl (sk rfl rfl rfl rfl (sk rfl rfl rfl rfl ?_)))))))
 refine p (bf rfl) (p mv (sk rfl rfl rfl rfl (sk rfl rfl rfl rfl (sk rfl rfl rfl rfl (sk rfl rfl rfl rfl (sk rfl rfl rfl rfl (sk rfl rfl rfl rfl ?_)))))))
 refine sk rfl rfl rfl rfl (sk rfl rfl rfl rfl (p (bf rfl) (ag ((E _ _ (ct rfl (U (fun _ q=> ?_))))))))
 refine ae (((q _ _ (rt (br (tr (tr (br ?_))))))))
 exact tr (f1 rfl rfl (⟨.inr ⟨ln,113,ot (k:=seen.getD i []) (qX (.inr (.inl ap))) (c6 (by omega)),by decide,rfl,a.bK⟩,s⟩))
 refine pg rfl rfl rfl (aB (aG H.rb) rfl) (pg rfl rfl rfl (nc rfl) (pg rfl rfl rfl (fa kX rfl) (pg rfl rfl rfl (ld gd rfl ((aO a.cells).trans rfl)) (pg rfl rfl rfl (aB (aa i) rfl) (pg rfl rfl rfl (aJ bA rfl rfl (by omega) (ak.ok ((aI a.hd).2) (bl (by omega)))) (pg rfl rfl rfl (ld bw rfl (bh.get (i:=i) (aI a.hd).2 (by omega))) (pg rfl rfl rfl (cG rfl rfl) ?_)))))))
 refine p (a4 rfl) (p mv (gs (t:=46) rfl (fun aq=> ?_) (fun aq=> ?_)))
 refine sk rfl rfl rfl rfl (sk rfl rfl rfl rfl (sk rfl rfl rfl rfl (sk rfl rfl rfl rfl (sk rfl rfl rfl rfl (sk rfl rfl rfl rfl (sk rfl rfl rfl rfl (sk rfl rfl rfl rfl ?_)))))))
 refine p (bf rfl) (ag ((E _ _ (ct rfl (U (fun _ q=>(p aj (nl ?_))))))))
 refine tn (q _ _ (rt (br (tr (tr (br (tr (f1 rfl rfl ?_))))))))
 exact ⟨.inr ⟨ln,113,ot (k:=seen.getD i []) (qX (.inr (.inr (.inl aq)))) (c6 (by omega)),by decide,rfl,a.bK⟩,s⟩
 refine pg rfl rfl rfl (aB (aG H.rb) rfl) (pg rfl rfl rfl (nc rfl) (pg rfl rfl rfl (fa kX rfl) (pg rfl rfl rfl (ld gd rfl ((aO a.cells).trans rfl)) (pg rfl rfl rfl (aB (aa i) rfl) (pg rfl rfl rfl (aJ bA rfl rfl (by omega) (ak.ok ((aI a.hd).2) (bl (by omega)))) (pg rfl rfl rfl (ld bw rfl (bh.get (i:=i) (aI a.hd).2 (by omega))) (pg rfl rfl rfl (cG rfl rfl) ?_)))))))
 refine p (a4 rfl) (ag ((E _ _ (cd rfl (fun am=> ?_) (fun am=> ?_)))))
 refine U (fun _ q=>(ae (((q _ _ (rt (br (tr ?_))))))))
 exact tr (br (tr (f1 rfl rfl (⟨.inr ⟨ln,113,ot (k:=seen.getD i []) (qX (.inr (.inr (.inr am)))) (c6 (by omega)),by decide,rfl,a.bK⟩,s⟩))))
 refine au (bn (tn (G _ _ (rg rfl (ab (aa i) (p (ad rfl rfl (bp (by omega))) (p aj (nl ?_))))))))
 exact tn (⟨_,by omega,i+1,(by omega),((fun j hj=>by rcases Nat.lt_or_ge j i with h | h <;> first | exact M j h | (rw [show j=i by omega]; exact JC (fun h=>ao (nz.2 h)) ap aq am))),rfl,rfl,rfl,rfl,rfl⟩)
 refine ext (te _ (te _ (be (tn (ax _ _ (sq (fun _ G=>U (fun _ al=> ?_))))))))
 refine ab (.slice O r.length Y) (p (aJ bA rfl rfl (by omega) (ak.ok (hTs.2) (bl (by omega)))) (p (ld bw rfl (bh.get (i:=1) hTs.2 (by omega))) (ag ((al _ _ (az (U (fun _ E=> ?_))))))))
 refine p (cG rfl rfl) (ae (((E _ _ (cd rfl (fun J=> ?_) (fun J=> ?_))))))
 refine rg rfl (ab (aG H.rb) (p (nc rfl) (p (fa ik rfl) (p (ld h8 rfl ((aO a.cells).trans rfl)) (p (nc rfl) (p (fa nd rfl) (e (ca fW rfl rfl (v:=aa 1) rfl hF.cells (by show _ < 13; omega) fun w9 hM9 I=> ?_))))))))
 refine nl (bn (tn (G _ _ (U (fun _ q=>(ae (((q _ _ ?_)))))))))
 refine rt (f1 rfl rfl ?_)
 have C:ordered seen=true :=qY (fun j hj=>M j (by omega))
 have hk:fS (r.getD 1 [])=1:=by unfold fS; rw [if_pos (show r.getD 1 []=mH from J)]
 have hF2:=hF.put (F':= {F with kind:=1}) hM9 I rfl rfl rfl rfl hF.ee
 have A:Wk w1 w9:=s.trans' hM9 (fun k hk h=>by have :=hF.lo; omega)
 exact ⟨.inl ⟨_,k,ln,(qK C (by omega)).trans (by rw [hk]),rfl,⟨V,_,hF2,a.fb hF hM9,⟨hB.len,hB.sl,hB.row,(by show 1=1∨1=2∨1=3; decide)⟩,A,hkl⟩⟩,A⟩
 refine U (fun _ q=>(p (cG rfl rfl) (ae (((q _ _ (cd rfl (fun Z=> ?_) (fun Z=> ?_))))))))
 refine rg rfl (ab (aG H.rb) (p (nc rfl) (p (fa ik rfl) (p (ld h8 rfl ((aO a.cells).trans rfl)) (p (nc rfl) (p (fa nd rfl) (e (ca fW rfl rfl (v:=aa 2) rfl hF.cells (by show _ < 13; omega) fun w9 hM9 I=> ?_))))))))
 refine nl (bn (tn (G _ _ (U (fun _ ah=>(ae (((ah _ _ ?_)))))))))
 refine rt (f1 rfl rfl ?_)
 have C:ordered seen=true :=qY (fun j hj=>M j (by omega))
 have hk:fS (r.getD 1 [])=2:=by unfold fS; rw [if_neg (show ¬r.getD 1 []=mH from J),if_pos (show r.getD 1 []=nm from Z)]
 have hF2:=hF.put (F':= {F with kind:=2}) hM9 I rfl rfl rfl rfl hF.ee
 have A:Wk w1 w9:=s.trans' hM9 (fun k hk h=>by have :=hF.lo; omega)
 exact ⟨.inl ⟨_,k,ln,(qK C (by omega)).trans (by rw [hk]),rfl,⟨V,_,hF2,a.fb hF hM9,⟨hB.len,hB.sl,hB.row,(by show 2=1∨2=2∨2=3; decide)⟩,A,hkl⟩⟩,A⟩
 refine U (fun _ ah=>(p (cG rfl rfl) (ae (((ah _ _ (cd rfl (fun an=> ?_) (fun an=> ?_))))))))
 refine rg rfl (ab (aG H.rb) (p (nc rfl) (p (fa ik rfl) (p (ld h8 rfl ((aO a.cells).trans rfl)) (p (nc rfl) (p (fa nd rfl) (e (ca fW rfl rfl (v:=aa 3) rfl hF.cells (by show _ < 13; omega) fun w9 hM9 I=> ?_))))))))
 refine nl (bn (tn (G _ _ (U (fun _ ai=>(ae (((ai _ _ ?_)))))))))
 refine rt (f1 rfl rfl ?_)
 have C:ordered seen=true :=qY (fun j hj=>M j (by omega))
 have hk:fS (r.getD 1 [])=3:=by unfold fS; rw [if_neg (show ¬r.getD 1 []=mH from J),if_neg (show ¬r.getD 1 []=nm from Z),if_pos (show r.getD 1 []=ou from an)]
 have hF2:=hF.put (F':= {F with kind:=3}) hM9 I rfl rfl rfl rfl hF.ee
 have A:Wk w1 w9:=s.trans' hM9 (fun k hk h=>by have :=hF.lo; omega)
 exact ⟨.inl ⟨_,k,ln,(qK C (by omega)).trans (by rw [hk]),rfl,⟨V,_,hF2,a.fb hF hM9,⟨hB.len,hB.sl,hB.row,(by show 3=1∨3=2∨3=3; decide)⟩,A,hkl⟩⟩,A⟩
 refine U (fun _ ai=>(ae (((ai _ _ (rt (br (tr ?_))))))))
 refine f1 rfl rfl ?_
 have C:ordered seen=true :=qY (fun j hj=>M j (by omega))
 exact ⟨.inr ⟨ln,114,z0 C (by unfold fS; rw [if_neg (show ¬r.getD 1 []=mH from J),if_neg (show ¬r.getD 1 []=nm from Z),if_neg (show ¬r.getD 1 []=ou from an)]),by decide,rfl,a.bK⟩,s⟩
end Go.Hb.mV
end
section
set_option maxRecDepth 20000
set_option maxHeartbeats 1000000
namespace Go.Hb.rP
open Go.Hb.di
open Go.Proofs
open Go.Hb.ke Go.Hb.mV Go.Hb.eS Go.Hb.fE Go.Hb.iQ Go.Hb.fN Go.Hb.iw Go.Hb.jN Go.Hb.kK Go.Hb.gU Go.Hb.mW Go.Hb.gA Go.Hb.o7 Go.Hb.kN Go.Hb.lx Go.Hb.o6 Go.Hb.mi Go.Hb.gl Go.Hb.fQ
theorem KB {kind ln:Nat} {al:List (List Nat)} {c:bV} {r:List Tx} {e:Nat} (h:r.length=4∨r.length=5) (h1:dq true (r.getD 2 [])= .error e):ew kind al c ln r= .error e:=by rw [jk h,h1]
theorem A4 {kind ln:Nat} {al:List (List Nat)} {c:bV} {r:List Tx} {e:Nat} {st:Tx} (h:r.length=4∨r.length=5) (h1:dq true (r.getD 2 [])= .ok st) (h2:gM (aV (r.getD 3 []))= .error e):ew kind al c ln r= .error e:=by rw [jk h,h1]; simp only; rw [h2]
theorem A5 {kind ln:Nat} {al:List (List Nat)} {c:bV} {r:List Tx} {e:Nat} {st ad:Tx} (h:r.length=4∨r.length=5) (h1:dq true (r.getD 2 [])= .ok st) (h2:gM (aV (r.getD 3 []))= .ok ad) (h3:g9 kind al c.kind (aV (r.getD 3 []))= .error e):ew kind al c ln r= .error e:=by rw [jk h,h1]; simp only; rw [h2]; simp only; rw [h3]
theorem A6 {kind ln:Nat} {al:List (List Nat)} {c:bV} {r:List Tx} {e:Nat} {st ad:Tx} {nx:List Nat} (h:r.length=4∨r.length=5) (h1:dq true (r.getD 2 [])= .ok st) (h2:gM (aV (r.getD 3 []))= .ok ad) (h3:g9 kind al c.kind (aV (r.getD 3 []))= .ok nx) (h4:ic r= .error e):ew kind al c ln r= .error e:=by rw [jk h,h1]; simp only; rw [h2]; simp only; rw [h3]; simp only; rw [h4]
theorem KC {kind ln:Nat} {al:List (List Nat)} {c:bV} {r:List Tx} {st ad cd:Tx} {nx:List Nat} (h:r.length=4∨r.length=5) (h1:dq true (r.getD 2 [])= .ok st) (h2:gM (aV (r.getD 3 []))= .ok ad) (h3:g9 kind al c.kind (aV (r.getD 3 []))= .ok nx) (h4:ic r= .ok cd):ew kind al c ln r= .ok ⟨c.kind,c.flag,c.dW,st,ad,cd,nx,ln⟩:=by rw [jk h,h1]; simp only; rw [h2]; simp only; rw [h3]; simp only; rw [h4]
def iV (xb:Nat) (F:aH) (c:bV) (ln:Nat) (r:List Tx) (w:World) (v:Value) (w':World):Prop :=Md (fun k=>k=xb) w w'∧∃ L:List Value,L.length=8∧L.all Value.oneCell'=true∧w'.heap[xb]? =some (.cells L.toArray 127 (0,0))∧((∃ q vn,ew F.kind F.aliases c ln r= .ok q∧v= .int .i64 (0:Nat)∧L=k3 (q,vn)∧Tg w' 0 3 q.next.length vn (q.next.map bq))∨(∃ e:Nat,ew F.kind F.aliases c ln r= .error e∧e≠0∧v= .int .i64 (e:Nat)))
section
variable {xb ln:Nat} {F:aH} {c:bV} {r:List Tx} {w w':World} {st ad cd:Tx} {vn:Value}
theorem iV.no {e:Nat} (hm:Md (fun k=>k=xb) w w') (a:w'.heap[xb]? =some (.cells [.int .i64 (c.kind:Nat),bq c.flag,.bool c.dW,str st,str ad,str cd,vn,.int .i64 (ln:Nat)].toArray 127 (0,0))) (hv:vn.oneCell'=true) (h:ew F.kind F.aliases c ln r= .error e) (he:e≠0):iV xb F c ln r w (.int .i64 (e:Nat)) w':=
 ⟨hm,_,rfl,by simp only [List.all_cons,hv]; rfl,a,.inr ⟨e,h,he,rfl⟩⟩
theorem iV.ok {nx:List Nat} (hm:Md (fun k=>k=xb) w w') (a:w'.heap[xb]? =some (.cells [.int .i64 (c.kind:Nat),bq c.flag,.bool c.dW,str st,str ad,str cd,vn,.int .i64 (ln:Nat)].toArray 127 (0,0))) (hv:vn.oneCell'=true) (hT:Tg w' 0 3 nx.length vn (nx.map bq)) (h:ew F.kind F.aliases c ln r= .ok ⟨c.kind,c.flag,c.dW,st,ad,cd,nx,ln⟩):iV xb F c ln r w (.int .i64 (0:Nat)) w':=
 ⟨hm,_,rfl,by simp only [List.all_cons,hv]; rfl,a,.inl ⟨_,vn,h,rfl,rfl,hT⟩⟩
end
theorem Fj {s t:Tx} (h:t∈(cA s).1) (hs:s.length≤1048576):(t.length=1∨3≤t.length)∧t.length≤1048576:=by
 have :=Fi.1 t h
 exact ⟨this.1,by omega⟩
theorem vb (w:World) (B e:Nat):Tg w B e 0 (.slice none 0 0) []:=⟨none,0,rfl,Nat.le_refl _,.inl rfl⟩
theorem Hp {F F':aH} {ln:Nat} {row:List Tx} (h:fw F ln row= .ok F'):F'.aX=F.aX∧F'.kind=F.kind:=by
 unfold fw at h
 repeat' split at h
 all_goals first
  | (cases h; done)
  | (cases h; exact ⟨rfl,rfl⟩)
theorem zx (B fb xb:Nat) (F:aH) (V:ff) (c:bV) (ln:Nat) (r:List Tx) (av:Nat) (a:Option Addr) (j:Nat) (w:World) (hF:jO w B 0 fb F V) (hk:F.kind=1∨F.kind=2∨F.kind=3) (bW:F.aliases.length≤70000) (cm:w.heap[xb]? =some (.cells [aa (c.kind),bq c.flag,.bool c.dW,str [],str [],str [],.slice none 0 0,aa ln].toArray 127 (0,0))) (hT:Tg w av 9 r.length (.slice a r.length j) (r.map str)) (hr:r.length=4∨r.length=5) (hrl:∀ x∈r,x.length≤70000):
 aU Tryz.prog 126 (List.toArray [aG fb,aG xb,.slice a r.length j]) w (iV xb F c ln r w):=by
 have hTs:=hT.bH
 have cv:(r.getD 2 []).length≤70000:=hrl _ (c6 (by omega))
 have cw:(r.getD 3 []).length≤70000:=hrl _ (c6 (by omega))
 have hwl:=mQ (r.getD 3 [])
 refine enter Tryz.func126 rfl Tryz.ntmps126 rfl ?_
 refine U (fun _ bb=>(ae (((bb _ _ (U (fun _ bi=>(ab (.slice a r.length j) ?_))))))))
 refine p (aJ bA rfl rfl (by omega) (ak.ok (hTs.2) (bl (by omega)))) (p (ld bw rfl (bh.get (i:=2) hTs.2 (by omega))) (e (cl r8 (tK (r.getD 2 []) true w (by omega)) rfl fun cy w19 bu=> ?_)))
 obtain ⟨⟨st,e,rfl,a6⟩,hE19⟩:=bu
 have hx1:=Wk.az hE19 cm
 have hm19:Md (fun k=>k=xb) w w19:=hE19.mono (fun _ _ h=>h.elim)
 refine p mv (p (xt rfl rfl) (p (xt rfl rfl) (p aj (ae (((bi _ _ (sq (fun _ bj=> ?_)))))))))
 refine U (fun _ bk=>(p mv (p (bP rfl rfl) (ag ((bk _ _ (cd rfl (fun hc23=> ?_) (fun hc23=> ?_))))))))
 have a5:dq true (r.getD 2 [])= .error e∧e≠0:=by
  rcases a6 with ⟨_,h⟩ | h
  omega
  exact h
 refine U (fun _ ay=>(p mv (ae (((ay _ _ (rt (tr ?_))))))))
 exact f1 rfl rfl (iV.no hm19 hx1 rfl (KB hr a5.1) a5.2)
 obtain ⟨ao,rfl⟩:dq true (r.getD 2 [])= .ok st∧e=0:=by
  rcases a6 with h | ⟨_,h⟩
  exact h
  omega
 refine au (tn (bj _ _ (U (fun _ ay=>(ab (aG xb) (p mv (p (nc rfl) (p (fa GU rfl) ?_))))))))
 refine e (ca jc rfl rfl (v:=str st) rfl hx1 (by show _ < 8; omega) fun w4 aF bt=> ?_)
 have hxE4:=hx1
 have hT4:=(hT.wk hE19).md aF (dK hxE4 (by decide))
 have hF4:=(hF.wk hE19).md aF (TF.eq (L:= [129]) (cR hxE4) (by decide)) (by decide)
 have hm4:=(hm19).trans' aF (fun _ _ h=>h)
 have cp:w4.heap[xb]? =some (.cells [aa (c.kind),bq c.flag,.bool c.dW,str st,str [],str [],.slice none 0 0,aa ln].toArray 127 (0,0)):=bt
 refine ag ((ay _ _ (U (fun _ bm=>(ab (.slice a r.length j) (p (aJ bA rfl rfl (by omega) (ak.ok (hT4.bH.2) (bl (by omega)))) (p (ld bw rfl (bh.get (i:=3) hT4.bH.2 (by omega))) (e (cl pN (q8 (r.getD 3 []) w4 (by omega)) rfl fun cz w33 bv=> ?_)))))))))
 obtain ⟨rfl,C⟩:=bv
 have hx5:=Wk.az C cp
 have aL:Md (fun k=>k=xb) w w33:=hm4.trans' C (fun _ _ h=>h.elim)
 refine p mv (p (xt rfl rfl) (p (xt rfl rfl) (p (xt rfl rfl) (p (xt rfl rfl) (p aj (p aj (p aj ?_)))))))
 refine ae (((bm _ _ (sq (fun _ bn=>U (fun _ bo=>(p mv (p (bP rfl rfl) ?_))))))))
 refine ag ((bo _ _ (cd rfl (fun bJ=> ?_) (fun bJ=> ?_))))
 refine U (fun _ q=>(p mv (ae (((q _ _ (rt (tr ?_))))))))
 exact f1 rfl rfl (iV.no aL hx5 rfl (A4 hr ao (vK (by omega))) (by omega))
 have aT:(aV (r.getD 3 [])).2.2.2=0:=by omega
 refine au (tn (bn _ _ ?_))
 refine cX (fun I wC=> ∃ (s1 A:Tx),(dq true (r.getD 2 [])= .ok s1)∧(gM (aV (r.getD 3 []))= .ok A)∧(wC.heap[xb]? =some (.cells [aa (c.kind),bq c.flag,.bool c.dW,str s1,str A,str [],.slice none 0 0,aa ln].toArray 127 (0,0)))∧(jO wC B 0 fb F V)∧(Tg wC av 9 r.length (.slice a r.length j) (r.map str))∧(Md (fun k=>k=xb) w wC)∧(I 0=aG fb)∧(I 1=aG xb)∧(I 2= .slice a r.length j)∧(I 10=str (aV (r.getD 3 [])).2.1)∧(I 11= .bool (aV (r.getD 3 [])).2.2.1)) ?_ ?_
 refine U (fun _ q=>(p mv (p (ky rfl rfl) (ag ((q _ _ (cd rfl (fun am=> ?_) (fun am=> ?_))))))))
 refine U (fun _ s=>(p mv (e (cl sh (tH (aV (r.getD 3 [])).1 w33 (by omega)) rfl fun cB w44 bx=> ?_))))
 obtain ⟨rfl,al⟩:=bx
 have hx6:=Wk.az al hx5
 have a0:Md (fun k=>k=xb) w w44:=aL.trans' al (fun _ _ h=>h.elim)
 refine ae (((s _ _ (sq (fun _ M=>U (fun _ O=>(p mv (p (bP rfl rfl) ?_))))))))
 refine ag ((O _ _ (cd rfl (fun bK=> ?_) (fun bK=> ?_))))
 refine U (fun _ aw=>(p mv (ae (((aw _ _ (rt (tr ?_))))))))
 exact tr (f1 rfl rfl (iV.no a0 hx6 rfl (A4 hr ao (vL aT am (by omega))) (by omega)))
 refine au (tn (M _ _ (rg rfl (ab (aG xb) (p mv (p (nc rfl) (p (fa GV rfl) (e (ca jc rfl rfl (v:=str (aV (r.getD 3 [])).1) rfl hx6 (by show _ < 8; omega) fun w12 aD hB12=> ?_)))))))))
 have hxE12:=hx6
 have hT12:=((hT4.wk C).wk al).md aD (dK hxE12 (by decide))
 have hF12:=((hF4.wk C).wk al).md aD (TF.eq (L:= [129]) (cR hxE12) (by decide)) (by decide)
 have hm12:=(a0).trans' aD (fun _ _ h=>h)
 have cn:w12.heap[xb]? =some (.cells [aa (c.kind),bq c.flag,.bool c.dW,str st,str (aV (r.getD 3 [])).1,str [],.slice none 0 0,aa ln].toArray 127 (0,0)):=hB12
 exact ag ((⟨st,(aV (r.getD 3 [])).1,ao,(vM aT am (by omega)),cn,hF12,hT12,hm12,rfl,rfl,rfl,rfl,rfl⟩))
 exact au (tn (⟨st,[],ao,(vN aT (Classical.not_not.1 am)),hx5,(hF4.wk C),(hT4.wk C),aL,rfl,rfl,rfl,rfl,rfl⟩))
 rintro I wC ⟨s1,A,ah,Z,ap,aC,aY,aM,b1,b2,b5,b3,b4⟩
 refine fx 0 b1 (fx 1 b2 (fx 2 b5 (fx 10 b3 (fx 11 b4 ?_))))
 refine cX (fun J aW=>((aV (r.getD 3 [])).2.2.1=true→c.kind≠1)∧(aW=wC)∧(J 0=aG fb)∧(J 1=aG xb)∧(J 2= .slice a r.length j)∧(J 10=str (aV (r.getD 3 [])).2.1)∧(J 11= .bool (aV (r.getD 3 [])).2.2.1)) ?_ ?_
 refine U (fun _ q=>(ab (.bool (aV (r.getD 3 [])).2.2.1) (ab (.bool (aV (r.getD 3 [])).2.2.1) (gb (t:=53) rfl (fun aK=> ?_) (fun aK=> ?_)))))
 refine pg rfl rfl rfl (aB (aG xb) rfl) (pg rfl rfl rfl (nc rfl) (pg rfl rfl rfl (fa GR rfl) (pg rfl rfl rfl (ld bQ rfl ((aO ap).trans rfl)) (pg rfl rfl rfl (a8 rfl rfl) (p (bf rfl) (ag ((q _ _ ?_))))))))
 refine cd rfl (fun bL=> ?_) (fun bL=> ?_)
 refine U (fun _ s=>(ae (((s _ _ (rt (tr (f1 rfl rfl ?_))))))))
 exact iV.no aM ap rfl (A5 hr ah Z (Al aK (by omega))) (by decide)
 exact au (tn (⟨((fun _=>by omega)),rfl,rfl,rfl,rfl,rfl,rfl⟩))
 refine sk rfl rfl rfl rfl (sk rfl rfl rfl rfl (sk rfl rfl rfl rfl (sk rfl rfl rfl rfl (sk rfl rfl rfl rfl (p (a4 rfl) (ag ((q _ _ ?_))))))))
 exact cf rfl (au (tn (⟨((fun h=>absurd (h.symm.trans aK) Bool.noConfusion)),rfl,rfl,rfl,rfl,rfl,rfl⟩)))
 rintro J aW ⟨aZ,ck,b6,b7,ce,b8,b9⟩
 refine fx 0 b6 (fx 1 b7 (fx 2 ce (fx 10 b8 (fx 11 b9 ?_))))
 subst ck
 refine cX (fun ar G=> ∃ (l:List Nat) (vn:Value),(g9 F.kind F.aliases c.kind (aV (r.getD 3 []))= .ok l)∧(G.heap[xb]? =some (.cells [aa (c.kind),bq c.flag,.bool c.dW,str s1,str A,str [],vn,aa ln].toArray 127 (0,0)))∧(vn.oneCell'=true)∧(Tg G 0 3 l.length vn (l.map bq))∧(jO G B 0 fb F V)∧(Tg G av 9 r.length (.slice a r.length j) (r.map str))∧(Md (fun k=>k=xb) w G)∧(ar 0=aG fb)∧(ar 1=aG xb)∧(ar 2= .slice a r.length j)) ?_ ?_
 refine U (fun _ q=>(ab (.bool (aV (r.getD 3 [])).2.2.1) (ag ((q _ _ (cb rfl (fun E=> ?_) (fun E=> ?_)))))))
 refine U (fun _ s=>(ab (aG xb) (ab (aG fb) (ab (str (aV (r.getD 3 [])).2.1) (e (cl pO (zr B fb F V (aV (r.getD 3 [])).2.1 aW aC hk bW (by omega)) rfl fun cC w65 bz=> ?_))))))
 obtain ⟨⟨ai,e65,rfl,aP,hfl⟩,hE65⟩:=bz
 have hx16:=Wk.az hE65 ap
 have bX:Md (fun k=>k=xb) w w65:=aM.trans' hE65 (fun _ _ h=>h.elim)
 refine p mv (p (xt rfl rfl) (p (xt rfl rfl) (p (nc rfl) (p (fa tt rfl) (e (ca x5 rfl rfl (v:=ai) aP hx16 (by show _ < 8; omega) fun w16 hM16 bp=> ?_))))))
 have hxE16:=hx16
 have hT16:=(aY.wk hE65).md hM16 (dK hxE16 (by decide))
 have hF16:=(aC.wk hE65).md hM16 (TF.eq (L:= [129]) (cR hxE16) (by decide)) (by decide)
 have hm16:=(bX).trans' hM16 (fun _ _ h=>h)
 have a9:w16.heap[xb]? =some (.cells [aa (c.kind),bq c.flag,.bool c.dW,str s1,str A,str [],ai,aa ln].toArray 127 (0,0)):=bp
 refine ae (((s _ _ (U (fun _ M=>(p mv (p (bP rfl rfl) (nl ?_))))))))
 refine tn (M _ _ (cd rfl (fun bM=> ?_) (fun bM=> ?_)))
 obtain ⟨bS,bT⟩:e65≠0∧ec F.kind F.aliases (aV (r.getD 3 [])).2.1= .error e65:=by
  rcases hfl with ⟨l,h,_⟩ | h
  omega
  exact h
 refine U (fun _ O=>(p mv (ae (((O _ _ (rt (tr ?_))))))))
 exact f1 rfl rfl (iV.no hm16 a9 aP (A5 hr ah Z ((qO E (aZ E)).trans bT)) bS)
 obtain ⟨l,rfl,hfo,bF⟩:∃ l,e65=0∧ec F.kind F.aliases (aV (r.getD 3 [])).2.1= .ok l∧Tg w65 0 3 l.length ai (l.map bq):=by
  rcases hfl with h | ⟨h,_⟩
  exact h
  omega
 exact au (tn (⟨l,ai,((qO E (aZ E)).trans hfo),a9,aP,(bF.md hM16 (dK hx16 (by decide))),hF16,hT16,hm16,rfl,rfl,rfl⟩))
 exact au (tn (⟨[],.slice none 0 0,(Am E),ap,rfl,(vb _ _ _),aC,aY,aM,rfl,rfl,rfl⟩))
 rintro ar G ⟨l,vn,aN,aS,aR,bG,cu,bE,bZ,cg,ch,ci⟩
 refine fx 0 cg (fx 1 ch (fx 2 ci (U (fun _ q=>(ab (aG xb) (p (nc rfl) (p (fa y6 rfl) (e (ca jc rfl rfl (v:=str [46]) rfl aS (by show _ < 8; omega) fun w19 aE br=> ?_)))))))))
 have hxE19:=aS
 have hT19:=(bE).md aE (dK hxE19 (by decide))
 have hm19:=(bZ).trans' aE (fun _ _ h=>h)
 have a7:w19.heap[xb]? =some (.cells [aa (c.kind),bq c.flag,.bool c.dW,str s1,str A,str [46],vn,aa ln].toArray 127 (0,0)):=br
 have hTl19:=bG.md aE (dK aS (by decide))
 refine ag ((q _ _ ?_))
 refine cX (fun cs aq=> ∃ (cd:Tx),(ic r= .ok cd)∧(aq.heap[xb]? =some (.cells [aa (c.kind),bq c.flag,.bool c.dW,str s1,str A,str cd,vn,aa ln].toArray 127 (0,0)))∧(Tg aq 0 3 l.length vn (l.map bq))∧(Md (fun k=>k=xb) w aq)) ?_ ?_
 refine U (fun _ s=>(ab (.slice a r.length j) (p (ba c9 rfl rfl) (p (a8 rfl rfl) (ag ((s _ _ (cd rfl (fun bN=> ?_) (fun bN=> ?_)))))))))
 have cx:(r.getD 4 []).length≤70000:=hrl _ (c6 (by omega))
 have aQ:r.length=5:=by omega
 refine U (fun _ M=>(ab (.slice a r.length j) (p (aJ bA rfl rfl (by omega) (ak.ok (hT19.bH.2) (bl (by omega)))) (p (ld bw rfl (bh.get (i:=4) hT19.bH.2 (by omega))) (e (cl nZ (oH (r.getD 4 []) w19 (by omega)) rfl fun cD w82 bB=> ?_))))))
 obtain ⟨rfl,Y⟩:=bB
 have hx82:=Wk.az Y a7
 have a1:Md (fun k=>k=xb) w w82:=hm19.trans' Y (fun _ _ h=>h.elim)
 refine ae (((M _ _ (sq (fun _ O=>U (fun _ aw=>(p mv (p (no rfl) ?_))))))))
 refine ag ((aw _ _ (cb rfl (fun an=> ?_) (fun an=> ?_))))
 refine U (fun _ ax=>(ae (((ax _ _ (rt (tr (tr ?_))))))))
 exact f1 rfl rfl (iV.no a1 hx82 aR (A6 hr ah Z aN (xS aQ (by simpa using an))) (by decide))
 refine au (tn (O _ _ (U (fun _ ax=>(ab (.slice a r.length j) (p (aJ bA rfl rfl (by omega) (ak.ok ((hT19.wk Y).bH.2) (bl (by omega)))) (p (ld bw rfl (bh.get (i:=4) (hT19.wk Y).bH.2 (by omega))) (e (cl Du (J0 (r.getD 4 []) w82 (by omega)) rfl fun cE w89 bC=> ?_)))))))))
 obtain ⟨⟨ct,rfl,a3⟩,hE89⟩:=bC
 obtain ⟨ac,cc,rfl⟩:=bU a3
 have hx89:=Wk.az hE89 hx82
 have a2:Md (fun k=>k=xb) w w89:=a1.trans' hE89 (fun _ _ h=>h.elim)
 refine p mv (p (xt rfl rfl) (p (xt rfl rfl) (p aj (ae (((ax _ _ (sq (fun _ bc=> ?_)))))))))
 refine U (fun _ bd=>(p mv (p (bP rfl rfl) (ag ((bd _ _ (cd rfl (fun bO=> ?_) (fun bO=> ?_))))))))
 refine U (fun _ bg=>(p mv (ae (((bg _ _ (rt (tr ?_))))))))
 exact tr (f1 rfl rfl (iV.no a2 hx89 aR (A6 hr ah Z aN (xT aQ (by simpa using an) (by omega))) (by omega)))
 refine au (tn (bc _ _ (rg rfl (ab (aG xb) (p mv (e (cl Dv (Kw (cA (r.getD 4 [])).1 ac cc w89 (aI a3).2 (by have :=xW (r.getD 4 []); omega) (fun t cj=>Fj cj (by omega))) rfl fun cF w97 bD=> ?_)))))))
 obtain ⟨rfl,aA⟩:=bD
 have hx97:=Wk.az aA hx89
 have bY:Md (fun k=>k=xb) w w97:=a2.trans' aA (fun _ _ h=>h.elim)
 refine p (nc rfl) (p (fa y6 rfl) (e (ca jc rfl rfl (v:=str (jJ (cA (r.getD 4 [])).1)) rfl hx97 (by show _ < 8; omega) fun cr aX bs=> ?_)))
 have co:cr.heap[xb]? =some (.cells [aa (c.kind),bq c.flag,.bool c.dW,str s1,str A,str (jJ (cA (r.getD 4 [])).1),vn,aa ln].toArray 127 (0,0)):=bs
 have hm27:=bY.trans' aX (fun _ _ h=>h)
 have hTl27:=(((hTl19.wk Y).wk hE89).wk aA).md aX (dK hx97 (by decide))
 exact ag ((⟨jJ (cA (r.getD 4 [])).1,(xU aQ (by simpa using an) (by omega)),co,hTl27,hm27⟩))
 exact au (tn (⟨[46],(xV (by omega)),a7,hTl19,hm19⟩))
 rintro cs aq ⟨cd,bR,cq,bI,b0⟩
 exact U (fun _ s=>(ae (((s _ _ (rt (f1 rfl rfl (iV.ok b0 cq aR bI (KC hr ah Z aN bR)))))))))
theorem Hq (w1:World) (H:dZ) (F:aH) (k ln:Nat) (seen r:List Tx) (aW:Nat) (E:Option Addr) (G:Nat) (w:World) (a:iT w1 w H F k ln seen) (hT:Tg w aW 9 r.length (.slice E r.length G) (r.map str)) (cr:r≠[]) (hrl:∀ x∈r,x.length≤70000) (cy:F.bL.length+F.aliases.length+F.aX.length+F.rules.length+(H.rows.drop k).length < 70000) (hcl:r.getD 0 []≠dD→r.getD 0 []≠db→0 < F.aX.length):
 aU Tryz.prog 108 (List.toArray [aG H.rb,.slice E r.length G]) w (fun v w'=>((∃ F',fw F ln r= .ok F'∧v=aa 0∧iT w1 w' H F' k ln seen)∨(∃ e:Nat,fw F ln r= .error e∧e≠0∧v=aa e∧Hb.aC w'.heap H.rb 5=some (aa ln)))∧Wk w1 w'):=by
 obtain ⟨V,vh,hF,I,hB,al,hkl⟩:=a
 have hTs:=hT.bH
 have hlo:=I.lo
 have hflo:=hF.lo
 have hbl:=hB.len
 have hrl0:=List.length_pos_iff.2 cr
 have hrbl:=(Array.getElem?_eq_some_iff.1 I.cells).1
 obtain ⟨b2,gh,bS⟩:=bU hF.dp
 have ho11:=hF.dp
 rw [bS] at ho11
 have aV:Hb.aC w.heap H.fb 11=some (.slice b2 F.aX.length gh):=by rw [← bS]; exact (aO hF.cells).trans rfl
 refine enter Tryz.func108 rfl Tryz.ntmps108 rfl ?_
 refine U (fun _ bW=>(ae (((bW _ _ (U (fun _ bX=>(ab (aG H.rb) ?_))))))))
 refine p (nc rfl) (p (fa ik rfl) (p (ld h8 rfl ((aO I.cells).trans rfl)) (ae (((bX _ _ (sq (fun _ bZ=>sq (fun _ b0=> ?_)))))))))
 refine rg rfl (ab (.slice E r.length G) (p (aJ bA rfl rfl (by omega) (ak.ok (hTs.2) (bl (by omega)))) (p (ld bw rfl (bh.get (i:=0) hTs.2 (by omega))) (ag ((b0 _ _ (az (sq (fun _ b1=> ?_)))))))))
 refine rg rfl (p (cG rfl rfl) (ae (((b1 _ _ (cd rfl (fun bm=> ?_) (fun bm=> ?_)))))))
 have h0:r.getD 0 []=dD:=bm
 refine sq (fun _ aY=>U (fun _ aD=>(ab (.slice E r.length G) (p (ba c9 rfl rfl) (p (bP rfl rfl) (ag ((aD _ _ ?_))))))))
 refine cd rfl (fun ch=> ?_) (fun ch=> ?_)
 refine U (fun _ ai=>(ae (((ai _ _ (rt (tr (br ?_))))))))
 exact tr (f1 rfl rfl (⟨.inr ⟨111,by unfold fw; rw [if_pos h0,AU (by omega)],by decide,rfl,I.bK⟩,al⟩))
 have bv:r.length=3:=by omega
 have hl1:=hrl _ (c6 (d:= []) (i:=1) (by omega))
 have hl2:=hrl _ (c6 (d:= []) (i:=2) (by omega))
 refine au (tn (aY _ _ (U (fun _ ai=>(ab (.slice E r.length G) (p (aJ bA rfl rfl (by omega) (ak.ok (hTs.2) (bl (by omega)))) (p (ld bw rfl (bh.get (i:=1) hTs.2 (by omega))) (e (cl r8 (tK (r.getD 1 []) false w (by omega)) rfl fun v30 w30 b8=> ?_)))))))))
 obtain ⟨⟨am,aR,rfl,aA⟩,hE30⟩:=b8
 have hT30:=hT.wk hE30
 refine p mv (p (xt rfl rfl) (p (xt rfl rfl) (p aj (ae (((ai _ _ (sq (fun _ J=> ?_)))))))))
 refine U (fun _ an=>(p mv (p (bP rfl rfl) (ag ((an _ _ (cd rfl (fun ci=> ?_) (fun ci=> ?_))))))))
 have bN:dq false (r.getD 1 [])= .error aR∧aR≠0:=by
  rcases aA with ⟨_,h⟩ | h
  omega
  exact h
 refine U (fun _ Y=>(p mv (ae (((Y _ _ (rt (tr ?_))))))))
 exact br (tr (f1 rfl rfl (⟨.inr ⟨aR,by unfold fw; rw [if_pos h0,AV bv bN.1],bN.2,rfl,(I.wk hE30).bK⟩,al.trans hE30⟩)))
 obtain ⟨bO,rfl⟩:dq false (r.getD 1 [])= .ok am∧aR=0:=by
  rcases aA with h | ⟨_,h⟩
  exact h
  omega
 refine au (tn (J _ _ (U (fun _ Y=>(ab (.slice E r.length G) (p (aJ bA rfl rfl (by omega) (ak.ok (hT30.bH.2) (bl (by omega)))) (p (ld bw rfl (bh.get (i:=2) hT30.bH.2 (by omega))) (e (cl r8 (tK (r.getD 2 []) true w30 (by omega)) rfl fun cF w40 b9=> ?_)))))))))
 obtain ⟨⟨ay,b4,rfl,hp2⟩,hE40⟩:=b9
 have hE40x:=hE30.trans hE40
 have hF4:=hF.wk hE40x
 refine p mv (p (xt rfl rfl) (p (xt rfl rfl) (p aj (ae (((Y _ _ (sq (fun _ aF=> ?_)))))))))
 refine rg rfl (p mv (p mv (p (nc rfl) (p (fa y5 rfl) (p (ld CC rfl ((aO hF4.cells).trans rfl)) (p mv (p mv ?_)))))))
 refine p (bY (ps:= [(0,str am),(1,str ay)]) (L:= [str am,str ay]) Lm rfl (rfl)) (e (ib Bn rfl rfl rfl fun cw w51 cz b7 b5=> ?_))
 have hE51:=hE40x.trans b7.md
 have hF5:=hF.wk hE51
 have hR5:=I.wk hE51
 have hz51:=hE51.size
 refine e (ap Bn (hF5.o9) rfl (by omega) rfl (ak.cQ b5) (rfl) (rfl) (by omega) (by omega) fun bT w52 bI aS hz52 cC=> ?_)
 have hR6:=hR5.own hF5.o9 aS (by decide)
 have hc6:=aS.az hF5.cells (cg hF5.o9 hF5.cells (by decide))
 have cp:World.ownsRow w52 w1.heap.size 219 2 bT (F.bL++ [(am,ay)]).length (gS (F.bL++ [(am,ay)])):=by rw [show gS (F.bL++ [(am,ay)])=gS F.bL++ [str am,str ay] from by simp [gS],List.length_append]; exact bI
 have hW6:Wk w1 w52:=(al.trans hE51).trans' aS (fun k hk h=>by have :=(c7 hF5.o9 h).1; omega)
 refine p (nc rfl) (p (fa y5 rfl) (e (ca FC rfl rfl (v:=bT) (dT bI) hc6 (by show _ < 13; omega) fun w9 hM9 aq=> ?_)))
 have hF7:=dz.r3 (x:=(am,ay)) hF5 aS cp hM9 aq
 have hR7:=hR6.ko hc6 hM9
 have C:Wk w1 w9:=hW6.trans' hM9 (fun k hk h=>by omega)
 refine ag ((aF _ _ (U (fun _ aK=>(p mv (ae (((aK _ _ ?_)))))))))
 refine rt (br (tr (f1 rfl rfl ?_)))
 rcases hp2 with ⟨O,rfl⟩ | ⟨O,hne⟩
 exact ⟨.inl ⟨_,by unfold fw; rw [if_pos h0,AX bv bO O],rfl,⟨_,vh,hF7,hR7,⟨by simp only [List.length_append,List.length_singleton]; omega,hB.sl,hB.row,hB.kd⟩,C,hkl⟩⟩,C⟩
 exact ⟨.inr ⟨b4,by unfold fw; rw [if_pos h0,AW bv bO O],hne,rfl,hR7.bK⟩,C⟩
 have h0:¬r.getD 0 []=dD:=bm
 refine U (fun _ aY=>(p (cG rfl rfl) (ae (((aY _ _ (cd rfl (fun bp=> ?_) (fun bp=> ?_))))))))
 have h1:r.getD 0 []=db:=bp
 refine sq (fun _ aD=>U (fun _ ai=>(ab (.slice E r.length G) (p (ba c9 rfl rfl) (p (bP rfl rfl) (ag ((ai _ _ ?_))))))))
 refine cd rfl (fun cj=> ?_) (fun cj=> ?_)
 refine U (fun _ J=>(ae (((J _ _ (rt (tr (br ?_))))))))
 exact tr (f1 rfl rfl (⟨.inr ⟨111,by unfold fw; rw [if_neg h0,if_pos h1,vY (by omega)],by decide,rfl,I.bK⟩,al⟩))
 have bR:r.length=2:=by omega
 have hl1:=hrl _ (c6 (d:= []) (i:=1) (by omega))
 refine au (tn (aD _ _ (sq (fun _ J=> ?_))))
 have ah:(fun w'=>Wk w w') w.drew:=(Md.refl _ _).drew
 refine bC (fun w'=>Wk w w') rfl wide ah (aA 0 rfl (fun _ _=>mv) ah (aA 1 rfl (fun _ _=>nc rfl) ah (aA 2 rfl (fun _ _=>fa nd rfl) ah (aA 3 rfl (fun w' a=>ld bQ rfl (Wk.aC a ((aO hF.cells).trans rfl))) ah (bo 4 rfl (.slice E r.length G) ah (aA 5 rfl (fun _ _=>aJ bA rfl rfl (by omega) (ak.ok (ak.wk hTs.2 ah) (bl (by omega)))) ah (aA 6 rfl (fun w' a=>ld bw rfl (Wk.aC a (bh.get (i:=1) hTs.2 (by omega)))) ah ?_)))))))
 refine he 7 rfl (by kernel_rfl) (cl wY (AZ F.kind (r.getD 1 []) w.drew hB.kd (by omega)) rfl fun cH w69 cb=> ?_)
 obtain ⟨⟨cv,rfl,bJ⟩,hE69⟩:=cb
 obtain ⟨bF,pM,rfl⟩:=bU bJ
 have hE69:=e6 hE69
 have hF4:=hF.wk hE69
 have aE:(fun w'=>Wk w w') w69:=Md.mono hE69 (fun _ _ h=>h)
 refine ⟨aE,?_⟩
 refine aA 8 rfl (fun _ _=>mv) aE (aA 9 rfl (fun _ _=>xt rfl rfl) aE (aA 10 rfl (fun _ _=>xt rfl rfl) aE (aA 11 rfl (fun _ _=>aj) aE (aA 12 rfl (fun _ _=>aj) aE (hn (by kernel_rfl) (tn (J _ _ (sq (fun _ an=> ?_)))))))))
 refine rg rfl (p mv (p mv (p (nc rfl) (p (fa oh rfl) (p (ld pj rfl ((aO hF4.cells).trans rfl)) (p mv (e (ea Bo rfl rfl fun cx cu cA bG b6=> ?_))))))))
 have hE78:=hE69.trans bG.md
 have hF5:=hF.wk hE78
 have hR5:=I.wk hE78
 have hz78:=hE78.size
 refine e (ap Bo (hF5.dH) rfl (by omega) rfl (ak.cQ b6) (rfl) (rfl) (by omega) (by omega) fun bV w79 bM aT hz79 cE=> ?_)
 have hR6:=hR5.own hF5.dH aT (by decide)
 have hc6:=aT.az hF5.cells (cg hF5.dH hF5.cells (by decide))
 have cc:Tg cu 0 3 (cU F.kind (r.getD 1 [])).1.length (.slice bF (cU F.kind (r.getD 1 [])).1.length pM) ((cU F.kind (r.getD 1 [])).1.map bq):=((Tg.fT bJ).mono (Nat.zero_le _)).wk bG.md
 have cq:World.ownsRow w79 w1.heap.size 64 1 bV (F.aliases++ [(cU F.kind (r.getD 1 [])).1]).length (V.sa++ [.slice bF (cU F.kind (r.getD 1 [])).1.length pM]):=by rw [List.length_append]; exact bM
 have hW6:Wk w1 w79:=(al.trans hE78).trans' aT (fun k hk h=>by have :=(c7 hF5.dH h).1; omega)
 refine p (nc rfl) (p (fa oh rfl) (e (ca FD rfl rfl (v:=bV) (dT bM) hc6 (by show _ < 13; omega) fun w9 hM9 aq=> ?_)))
 have hF7:=dz.rY (x:=(cU F.kind (r.getD 1 [])).1) hF5 cc aT cq hM9 aq
 have hR7:=hR6.ko hc6 hM9
 have C:Wk w1 w9:=hW6.trans' hM9 (fun k hk h=>by omega)
 refine ag ((an _ _ (U (fun _ Y=>(p mv (ae (((Y _ _ ?_)))))))))
 refine rt (br (tr (f1 rfl rfl ?_)))
 by_cases h:(cU F.kind (r.getD 1 [])).2=0
 exact ⟨.inl ⟨_,by unfold fw; rw [if_neg h0,if_pos h1,pw bR,qy h],by rw [h]; rfl,⟨_,vh,hF7,hR7,⟨by simp only [List.length_append,List.length_singleton]; omega,hB.sl,hB.row,hB.kd⟩,C,hkl⟩⟩,C⟩
 exact ⟨.inr ⟨_,by unfold fw; rw [if_neg h0,if_pos h1,pw bR,qw h],h,rfl,hR7.bK⟩,C⟩
 have h1:¬r.getD 0 []=db:=bp
 have hc0:=hcl h0 h1
 refine au (bn (tn (bZ _ _ (sq (fun _ aD=>U (fun _ ai=>(ab (.slice E r.length G) (p (ba c9 rfl rfl) ?_))))))))
 refine p (bP rfl rfl) (p mv (gs (t:=86) rfl (fun cn=> ?_) (fun cn=> ?_)))
 refine pg rfl rfl rfl (aB (.slice E r.length G) rfl) (pg rfl rfl rfl (ba c9 rfl rfl) (pg rfl rfl rfl (bP rfl rfl) (p (bf rfl) (ag ((ai _ _ (cd rfl (fun ck=> ?_) (fun ck=> ?_))))))))
 refine U (fun _ J=>(ae (((J _ _ (rt (tr (f1 rfl rfl ?_))))))))
 exact ⟨.inr ⟨111,by unfold fw; rw [if_neg h0,if_neg h1,uQ (by omega) (by omega)],by decide,rfl,I.bK⟩,al⟩
 have bx:r.length=4∨r.length=5:=by omega
 refine au (tn (aD _ _ (sq (fun _ J=> ?_))))
 have s:(fun w'=>Wk w w') w.drew:=(Md.refl _ _).drew
 refine bC (fun w'=>Wk w w') rfl wide s (aA 0 rfl (fun _ _=>mv) s (aA 1 rfl (fun _ _=>nc rfl) s (aA 2 rfl (fun _ _=>fa kW rfl) s (aA 3 rfl (fun w' a=>ld lC rfl (Wk.aC a (aV))) s (aA 4 rfl (fun _ _=>mv) s (aA 5 rfl (fun _ _=>nc rfl) s (aA 6 rfl (fun _ _=>fa kW rfl) s ?_)))))))
 refine aA 7 rfl (fun w' a=>ld lC rfl (Wk.aC a (aV))) s (aA 8 rfl (fun _ _=>ba vd rfl rfl) s (aA 9 rfl (fun _ _=>cI ((F.aX.length - 1:Nat):Int) rfl rfl (aQ (by omega) (by omega))) s (aA 10 rfl (fun _ _=>aJ qd rfl rfl (by omega) (ak.ok (ak.wk (aI ho11).2 s) (qA (by omega)))) s (aA 11 rfl (fun w' a=>dx mX rfl (rfl) (fun j hj=>gi (f:=jx) (m:=5) (fun _=>rfl) (ak.wk (aI ho11).2 a) (n8 (by omega :F.aX.length - 1 < F.aX.length)) j hj)) s (he 12 rfl (by kernel_rfl) (fH mR fun aZ w11 hb11 ar a0=> ?_))))))
 have hz11:=ar.size
 have hz20:=s.size
 have bd:(fun w'=>Wk w w') w11:=s.trans ar.md
 refine ⟨bd,?_⟩
 refine he 13 rfl (by kernel_rfl) (fV lL rfl rfl rfl rfl a0 (by decide) fun w20 a8 a2=> ?_)
 have ac:Wk w w20:=(s.trans ar.md).trans' a8 (fun k hk h=>by omega)
 have ax:w20.heap[aZ]? =some (.cells (jx (eu F)).toArray 129 (0,0)):=a2
 have bg:(fun w'=>Wk w w') w20:=ac
 refine ⟨bg,?_⟩
 refine hn (by kernel_rfl) (tn (J _ _ (sq (fun _ an=> ?_))))
 have hS21:(fun w'=>Wk w20 w') w20.drew:=(Md.refl _ _).drew
 refine bC (fun w'=>Wk w20 w') rfl wide hS21 (aA 0 rfl (fun _ _=>fa qo rfl) hS21 (aA 1 rfl (fun w' a=>ld bQ rfl (Wk.aC a ((aO ax).trans rfl))) hS21 (aA 2 rfl (fun _ _=>fa tu rfl) hS21 (aA 3 rfl (fun w' a=>ld bQ rfl (Wk.aC a ((aO ax).trans rfl))) hS21 (aA 4 rfl (fun _ _=>fa y8 rfl) hS21 (aA 5 rfl (fun w' a=>ld po rfl (Wk.aC a ((aO ax).trans rfl))) hS21 (bo 6 rfl (aG H.rb) hS21 ?_)))))))
 refine aA 7 rfl (fun _ _=>nc rfl) hS21 (aA 8 rfl (fun _ _=>fa kY rfl) hS21 (aA 9 rfl (fun w' a=>ld bQ rfl (Wk.aC a ((aO (I.wk ac).cells).trans rfl))) hS21 (aA 10 rfl (fun _ _=>bY (ps:= [(0,aa ((eu F).kind)),(1,bq (eu F).flag),(2,.bool (eu F).dW),(7,aa ln)]) (L:= [aa ((eu F).kind),bq (eu F).flag,.bool (eu F).dW,.string ⟨⟨[]⟩⟩,.string ⟨⟨[]⟩⟩,.string ⟨⟨[]⟩⟩,.slice none 0 0,aa ln]) Bz rfl (rfl)) hS21 (he 11 rfl (by kernel_rfl) (fH Cc fun ao w12 hb12 av hB12=> ?_)))))
 have hz12:=av.size
 have bi:(fun w'=>Wk w20 w') w12:=hS21.trans av.md
 refine ⟨bi,?_⟩
 refine he 12 rfl (by kernel_rfl) (fV xZ rfl rfl rfl rfl hB12 (by decide) fun w21 a9 a3=> ?_)
 have hE21:Wk w20 w21:=(hS21.trans av.md).trans' a9 (fun k hk h=>by have :=hS21.size; omega)
 have hE21x:=ac.trans hE21
 have bB:w21.heap[ao]? =some (.cells [aa ((eu F).kind),bq (eu F).flag,.bool (eu F).dW,str [],str [],str [],.slice none 0 0,aa ln].toArray 127 (0,0)):=a3
 have hs21:=hS21.size
 have hs20:=ac.size
 have bj:(fun w'=>Wk w20 w') w21:=hE21
 refine ⟨bj,?_⟩
 refine hn (by kernel_rfl) (tn (an _ _ (U (fun _ Y=>(p mv (ab (.slice E r.length G) (e (cl xf (zx w1.heap.size H.fb ao F V (eu F) ln r aW E G w21 (hF.wk hE21x).r hB.kd (by omega) bB (hT.wk hE21x) bx hrl) rfl fun ct w116 bc=> ?_))))))))
 obtain ⟨bs,L,aL,a6,a7,bz⟩:=bc
 have Z:Wk w w116:=hE21x.trans' bs (fun k hk h=>by omega)
 have hF4:=hF.wk Z
 have hR4:=I.wk Z
 have co:¬(V.cB.ownBlock=some H.rb):=cg hF4.cM hR4.cells (by decide)
 have bt:¬(V.cB.ownBlock=some H.fb):=cg hF4.cM hF4.cells (by decide)
 have hnx:¬(V.cB.ownBlock=some ao):=fun h=>by have :=(c7 hF.cM h).2; omega
 refine ae (((Y _ _ (sq (fun _ aF=> ?_)))))
 have A:(fun w'=>Md (fun k=>V.cB.ownBlock=some k) w116 w') w116.drew:=(Md.refl _ _).drew
 refine dG (fun w'=>Md (fun k=>V.cB.ownBlock=some k) w116 w') 10 rfl wide A (a5 0 rfl (fun _=>mv) (fun _=>A) (a5 1 rfl (fun _=>mv) (fun _=>A) (a5 2 rfl (fun _=>nc rfl) (fun _=>A) (a5 3 rfl (fun _=>fa jW rfl) (fun _=>A) (cO 4 rfl (fun w' a=>ld kP rfl (Md.aC a ((aO hF4.cells).trans rfl) bt)) A (cO 5 rfl (fun w' a=>dx vT rfl (aL) (fun j hj=>bD.c5 ⟨_,Md.az a a7 hnx⟩ j)) A (fA 6 rfl (by kernel_rfl) (ib rf rfl rfl aL fun b3 w123 ce bb a1=> ?_))))))))
 have hE123:=e6 bb.md
 have hF5:=hF4.wk hE123
 have hR5:=hR4.wk hE123
 have hz5:=(Z.trans hE123).size
 have aM:(fun w'=>Md (fun k=>V.cB.ownBlock=some k) w116 w') w123:=Md.mono hE123 (fun _ _ h=>h.elim)
 refine ⟨aM,?_⟩
 refine fA 7 rfl (by kernel_rfl) (ap rf (hF5.cM) rfl (by omega) rfl (ak.cQ a1) (by omega) (a6) (by omega) (by omega) fun aP w124 aN M cs cm=> ?_)
 have hR6:=hR5.own hF5.cM M (by decide)
 have hc6:=M.az hF5.cells (cg hF5.cM hF5.cells (by decide))
 have hW6:Wk w1 w124:=(al.trans (Z.trans hE123)).trans' M (fun k hk h=>by have :=(c7 hF5.cM h).1; omega)
 have aw:(fun w'=>Md (fun k=>V.cB.ownBlock=some k) w116 w') w124:=aM.trans' M (fun _ _ h=>h)
 refine ⟨aw,?_⟩
 refine a5 8 rfl (fun _=>nc rfl) (fun _=>aw) (a5 9 rfl (fun _=>fa jW rfl) (fun _=>aw) (cD 10 rfl (by kernel_rfl) (by kernel_rfl) (ca xY rfl rfl (v:=aP) (dT aN) hc6 (by show _ < 13; omega) fun w9 hM9 aq=> ?_)))
 have hR7:=hR6.ko hc6 hM9
 have C:Wk w1 w9:=hW6.trans' hM9 (fun k hk h=>by omega)
 refine dF (by kernel_rfl) ?_
 refine tn (aF _ _ (U (fun _ aK=>(p mv (ae (((aK _ _ (rt ?_)))))))))
 refine f1 rfl rfl ?_
 have bE:F.rules.length=V.rn.length:=by have :=hF5.nx.1; rw [List.length_map] at this; exact this.symm
 rcases bz with ⟨q,vn,O,rfl,rfl,bk⟩ | ⟨e,O,hne,rfl⟩
 have bu:World.ownsRow w124 w1.heap.size 127 8 aP (F.rules++ [q]).length (jy ((F.rules++ [q]).zip (V.rn++ [vn]))):=by
  rw [List.zip_append bE,show jy (F.rules.zip V.rn++ [q].zip [vn])=jy (F.rules.zip V.rn)++k3 (q,vn) from by simp [jy],List.length_append]
  exact aN
 have hF7:=dz.pB (x:=q) (vx:=vn) hF5 (bk.wk hE123) M bu hM9 aq
 exact ⟨.inl ⟨_,by unfold fw; rw [if_neg h0,if_neg h1,O],rfl,⟨_,vh,hF7,hR7,⟨by simp only [List.length_append,List.length_singleton]; omega,hB.sl,hB.row,hB.kd⟩,C,hkl⟩⟩,C⟩
 exact ⟨.inr ⟨e,by unfold fw; rw [if_neg h0,if_neg h1,O],hne,rfl,hR7.bK⟩,C⟩
 have bx:r.length=4∨r.length=5:=by omega
 refine sk rfl rfl rfl rfl (sk rfl rfl rfl rfl (sk rfl rfl rfl rfl (p (a4 rfl) (ag ((ai _ _ (cf rfl (au ?_))))))))
 refine tn (aD _ _ (sq (fun _ J=> ?_)))
 have s:(fun w'=>Wk w w') w.drew:=(Md.refl _ _).drew
 refine bC (fun w'=>Wk w w') rfl wide s (aA 0 rfl (fun _ _=>mv) s (aA 1 rfl (fun _ _=>nc rfl) s (aA 2 rfl (fun _ _=>fa kW rfl) s (aA 3 rfl (fun w' a=>ld lC rfl (Wk.aC a (aV))) s (aA 4 rfl (fun _ _=>mv) s (aA 5 rfl (fun _ _=>nc rfl) s (aA 6 rfl (fun _ _=>fa kW rfl) s ?_)))))))
 refine aA 7 rfl (fun w' a=>ld lC rfl (Wk.aC a (aV))) s (aA 8 rfl (fun _ _=>ba vd rfl rfl) s (aA 9 rfl (fun _ _=>cI ((F.aX.length - 1:Nat):Int) rfl rfl (aQ (by omega) (by omega))) s (aA 10 rfl (fun _ _=>aJ qd rfl rfl (by omega) (ak.ok (ak.wk (aI ho11).2 s) (qA (by omega)))) s (aA 11 rfl (fun w' a=>dx mX rfl (rfl) (fun j hj=>gi (f:=jx) (m:=5) (fun _=>rfl) (ak.wk (aI ho11).2 a) (n8 (by omega :F.aX.length - 1 < F.aX.length)) j hj)) s (he 12 rfl (by kernel_rfl) (fH mR fun aZ w11 hb11 ar a0=> ?_))))))
 have hz11:=ar.size
 have hz20:=s.size
 have bd:(fun w'=>Wk w w') w11:=s.trans ar.md
 refine ⟨bd,?_⟩
 refine he 13 rfl (by kernel_rfl) (fV lL rfl rfl rfl rfl a0 (by decide) fun w20 a8 a2=> ?_)
 have ac:Wk w w20:=(s.trans ar.md).trans' a8 (fun k hk h=>by omega)
 have ax:w20.heap[aZ]? =some (.cells (jx (eu F)).toArray 129 (0,0)):=a2
 have bg:(fun w'=>Wk w w') w20:=ac
 refine ⟨bg,?_⟩
 refine hn (by kernel_rfl) (tn (J _ _ (sq (fun _ an=> ?_))))
 have hS21:(fun w'=>Wk w20 w') w20.drew:=(Md.refl _ _).drew
 refine bC (fun w'=>Wk w20 w') rfl wide hS21 (aA 0 rfl (fun _ _=>fa qo rfl) hS21 (aA 1 rfl (fun w' a=>ld bQ rfl (Wk.aC a ((aO ax).trans rfl))) hS21 (aA 2 rfl (fun _ _=>fa tu rfl) hS21 (aA 3 rfl (fun w' a=>ld bQ rfl (Wk.aC a ((aO ax).trans rfl))) hS21 (aA 4 rfl (fun _ _=>fa y8 rfl) hS21 (aA 5 rfl (fun w' a=>ld po rfl (Wk.aC a ((aO ax).trans rfl))) hS21 (bo 6 rfl (aG H.rb) hS21 ?_)))))))
 refine aA 7 rfl (fun _ _=>nc rfl) hS21 (aA 8 rfl (fun _ _=>fa kY rfl) hS21 (aA 9 rfl (fun w' a=>ld bQ rfl (Wk.aC a ((aO (I.wk ac).cells).trans rfl))) hS21 (aA 10 rfl (fun _ _=>bY (ps:= [(0,aa ((eu F).kind)),(1,bq (eu F).flag),(2,.bool (eu F).dW),(7,aa ln)]) (L:= [aa ((eu F).kind),bq (eu F).flag,.bool (eu F).dW,.string ⟨⟨[]⟩⟩,.string ⟨⟨[]⟩⟩,.string ⟨⟨[]⟩⟩,.slice none 0 0,aa ln]) Bz rfl (rfl)) hS21 (he 11 rfl (by kernel_rfl) (fH Cc fun ao w12 hb12 av hB12=> ?_)))))
 have hz12:=av.size
 have bi:(fun w'=>Wk w20 w') w12:=hS21.trans av.md
 refine ⟨bi,?_⟩
 refine he 12 rfl (by kernel_rfl) (fV xZ rfl rfl rfl rfl hB12 (by decide) fun w21 a9 a3=> ?_)
 have hE21:Wk w20 w21:=(hS21.trans av.md).trans' a9 (fun k hk h=>by have :=hS21.size; omega)
 have hE21x:=ac.trans hE21
 have bB:w21.heap[ao]? =some (.cells [aa ((eu F).kind),bq (eu F).flag,.bool (eu F).dW,str [],str [],str [],.slice none 0 0,aa ln].toArray 127 (0,0)):=a3
 have hs21:=hS21.size
 have hs20:=ac.size
 have bj:(fun w'=>Wk w20 w') w21:=hE21
 refine ⟨bj,?_⟩
 refine hn (by kernel_rfl) (tn (an _ _ (U (fun _ Y=>(p mv (ab (.slice E r.length G) (e (cl xf (zx w1.heap.size H.fb ao F V (eu F) ln r aW E G w21 (hF.wk hE21x).r hB.kd (by omega) bB (hT.wk hE21x) bx hrl) rfl fun ct w116 bc=> ?_))))))))
 obtain ⟨bs,L,aL,a6,a7,bz⟩:=bc
 have Z:Wk w w116:=hE21x.trans' bs (fun k hk h=>by omega)
 have hF4:=hF.wk Z
 have hR4:=I.wk Z
 have co:¬(V.cB.ownBlock=some H.rb):=cg hF4.cM hR4.cells (by decide)
 have bt:¬(V.cB.ownBlock=some H.fb):=cg hF4.cM hF4.cells (by decide)
 have hnx:¬(V.cB.ownBlock=some ao):=fun h=>by have :=(c7 hF.cM h).2; omega
 refine ae (((Y _ _ (sq (fun _ aF=> ?_)))))
 have A:(fun w'=>Md (fun k=>V.cB.ownBlock=some k) w116 w') w116.drew:=(Md.refl _ _).drew
 refine dG (fun w'=>Md (fun k=>V.cB.ownBlock=some k) w116 w') 10 rfl wide A (a5 0 rfl (fun _=>mv) (fun _=>A) (a5 1 rfl (fun _=>mv) (fun _=>A) (a5 2 rfl (fun _=>nc rfl) (fun _=>A) (a5 3 rfl (fun _=>fa jW rfl) (fun _=>A) (cO 4 rfl (fun w' a=>ld kP rfl (Md.aC a ((aO hF4.cells).trans rfl) bt)) A (cO 5 rfl (fun w' a=>dx vT rfl (aL) (fun j hj=>bD.c5 ⟨_,Md.az a a7 hnx⟩ j)) A (fA 6 rfl (by kernel_rfl) (ib rf rfl rfl aL fun b3 w123 ce bb a1=> ?_))))))))
 have hE123:=e6 bb.md
 have hF5:=hF4.wk hE123
 have hR5:=hR4.wk hE123
 have hz5:=(Z.trans hE123).size
 have aM:(fun w'=>Md (fun k=>V.cB.ownBlock=some k) w116 w') w123:=Md.mono hE123 (fun _ _ h=>h.elim)
 refine ⟨aM,?_⟩
 refine fA 7 rfl (by kernel_rfl) (ap rf (hF5.cM) rfl (by omega) rfl (ak.cQ a1) (by omega) (a6) (by omega) (by omega) fun aP w124 aN M cs cm=> ?_)
 have hR6:=hR5.own hF5.cM M (by decide)
 have hc6:=M.az hF5.cells (cg hF5.cM hF5.cells (by decide))
 have hW6:Wk w1 w124:=(al.trans (Z.trans hE123)).trans' M (fun k hk h=>by have :=(c7 hF5.cM h).1; omega)
 have aw:(fun w'=>Md (fun k=>V.cB.ownBlock=some k) w116 w') w124:=aM.trans' M (fun _ _ h=>h)
 refine ⟨aw,?_⟩
 refine a5 8 rfl (fun _=>nc rfl) (fun _=>aw) (a5 9 rfl (fun _=>fa jW rfl) (fun _=>aw) (cD 10 rfl (by kernel_rfl) (by kernel_rfl) (ca xY rfl rfl (v:=aP) (dT aN) hc6 (by show _ < 13; omega) fun w9 hM9 aq=> ?_)))
 have hR7:=hR6.ko hc6 hM9
 have C:Wk w1 w9:=hW6.trans' hM9 (fun k hk h=>by omega)
 refine dF (by kernel_rfl) ?_
 refine tn (aF _ _ (U (fun _ aK=>(p mv (ae (((aK _ _ (rt ?_)))))))))
 refine f1 rfl rfl ?_
 have bE:F.rules.length=V.rn.length:=by have :=hF5.nx.1; rw [List.length_map] at this; exact this.symm
 rcases bz with ⟨q,vn,O,rfl,rfl,bk⟩ | ⟨e,O,hne,rfl⟩
 have bu:World.ownsRow w124 w1.heap.size 127 8 aP (F.rules++ [q]).length (jy ((F.rules++ [q]).zip (V.rn++ [vn]))):=by
  rw [List.zip_append bE,show jy (F.rules.zip V.rn++ [q].zip [vn])=jy (F.rules.zip V.rn)++k3 (q,vn) from by simp [jy],List.length_append]
  exact aN
 have hF7:=dz.pB (x:=q) (vx:=vn) hF5 (bk.wk hE123) M bu hM9 aq
 exact ⟨.inl ⟨_,by unfold fw; rw [if_neg h0,if_neg h1,O],rfl,⟨_,vh,hF7,hR7,⟨by simp only [List.length_append,List.length_singleton]; omega,hB.sl,hB.row,hB.kd⟩,C,hkl⟩⟩,C⟩
 exact ⟨.inr ⟨e,by unfold fw; rw [if_neg h0,if_neg h1,O],hne,rfl,hR7.bK⟩,C⟩
end Go.Hb.rP
end
section
set_option maxRecDepth 20000
set_option maxHeartbeats 1000000
namespace Go.Hb.vJ
open Go.Hb.di
open Go.Proofs
open Go.Hb.ke Go.Hb.mV Go.Hb.rP Go.Hb.eS Go.Hb.fE Go.Hb.iQ Go.Hb.fN Go.Hb.iw Go.Hb.jN Go.Hb.kK Go.Hb.gU Go.Hb.mW Go.Hb.gA Go.Hb.o7 Go.Hb.kN Go.Hb.lx Go.Hb.o6 Go.Hb.mi Go.Hb.gl Go.Hb.fQ
theorem drop_nil {α:Type} {l:List α} {k:Nat} (h:l.length≤k):l.drop k= []:=List.drop_eq_nil_of_le h
theorem IB {F:aH} {c:bV} :eu {F with aX:=F.aX++ [c]} =c:=by
 unfold eu
 simp [List.getD_eq_getElem?_getD]
theorem EF {eof ln x n:Nat} {F:aH} {rows:List Rw} {r:List Tx} (hr:r.length=4) (hk:r.getD 0 []≠dD) (a:r.getD 0 []≠db) (h:eC F (r.getD 1 [])= .ok x) (h1:r.getD 2 []= [89]∨r.getD 2 []= [78]) (h2:dy (r.getD 3 []) 1024= .ok n) (h3:¬1024 < F.rules.length+n):
 eK eof F rows ln r=eD (gE r) eof n {F with aX:=F.aX++ [(⟨x,(if r.getD 0 []=bO then 2 else 1:Nat),(decide (r.getD 2 []= [89])),F.rules.length,n⟩:bV)]} rows:=by
 rw [zH hr,Hn hk a,IB]
 unfold eK
 rw [h]
 simp only
 rw [if_neg (fun h3=>h1.elim h3.1 h3.2),h2]
 simp only
 rw [if_neg h3]
 all_goals rfl
theorem Ki {eof ln n:Nat} {F:aH} {rows:List Rw} {r:List Tx} (hr:r.length=2) (hk:r.getD 0 []=dD) (h2:dy (r.getD 1 []) 256= .ok n):gI eof F rows ln r=eD (gE r) eof n F rows:=by
 rw [zE (by omega),hk,Hm]
 unfold gI
 rw [h2]
 all_goals rfl
theorem CH {eof ln n:Nat} {F:aH} {seen:List Tx} {rows:List Rw} {r:List Tx} (hr:r.length=2) (hk:r.getD 0 []=db) (h0:¬(dP∈seen∨bO∈seen)) (h2:dy (r.getD 1 []) 1024= .ok n):gn eof F seen rows ln r=eD (gE r) eof n F rows:=by
 rw [zE (by omega),hk,Hl]
 unfold gn
 rw [if_neg h0,h2]
 all_goals rfl
theorem Ht {F:aH} {V:ff} {i o x:Nat} (h5:F.sp.length=5) (hi:i < 5) (j:o=3 +i):(jX F V).set o (bq x)=jX {F with sp:=F.sp.set i x} V:=by
 subst j
 obtain ⟨k,cs,tr,sp,le,p,al,cl,q⟩:=F
 match sp,h5 with
 | [a,b,c,d,e],_=>
   match i,hi with
   | 0,_=>rfl
   | 1,_=>rfl
   | 2,_=>rfl
   | 3,_=>rfl
   | 4,_=>rfl
theorem uX {s:Tx} (h:s∈cJ):cJ.idxOf s < 5:=by
 have :∀ k∈cJ,cJ.idxOf k < 5:=by decide
 exact this s h
theorem uW {s:Tx} (h:s∈cJ):k9 s=(cJ.idxOf s:Nat):=if_pos h
section
variable {eof ln:Nat} {F:aH} {seen:List Tx} {rows:List Rw} {r:List Tx}
theorem zA (h:r.getD 0 []∈cJ):bz eof F seen rows ln r=gK F rows ln r:=by unfold bz; rw [if_pos h]
theorem Hw (h:r.getD 0 []=eM):bz eof F seen rows ln r=gQ F seen rows ln r:=by unfold bz; rw [h]; rfl
theorem zz (h:r.getD 0 []=eZ):bz eof F seen rows ln r=jH F rows ln r:=by unfold bz; rw [h]; rfl
theorem zB (h:r.getD 0 []=fk):bz eof F seen rows ln r=jM F rows ln r:=by unfold bz; rw [h]; rfl
theorem tP (h:r.getD 0 []=gu):bz eof F seen rows ln r=g8 F rows ln r:=by unfold bz; rw [h]; rfl
theorem zy (h:r.getD 0 []=dD):bz eof F seen rows ln r=gI eof F rows ln r:=by unfold bz; rw [h]; rfl
theorem qE (h:r.getD 0 []=db):bz eof F seen rows ln r=gn eof F seen rows ln r:=by unfold bz; rw [h]; rfl
theorem Hv (h:r.getD 0 []=dP∨r.getD 0 []=bO):bz eof F seen rows ln r=eK eof F rows ln r:=by rcases h with h | h <;> (unfold bz; rw [h]; rfl)
theorem JQ {k:Tx} (hw:width k≠0) (h0:k∉cJ) (h1:k≠eM) (h2:k≠eZ) (h3:k≠fk) (h4:k≠gu) (h5:k≠dD) (a:k≠db):k=dP∨k=bO:=by
 unfold width at hw
 rw [if_neg (by simp [h0,h1,h2,h3,h4,h5,a])] at hw
 by_cases h:k=dP∨k=bO
 · exact h
 · rw [if_neg h] at hw; exact absurd rfl hw
end
theorem dR.eq {w1:World} {H:dZ} {seen:List Tx} {X Y:Except (Nat×Nat) (aH×List Rw)} {v:Value} {w:World} (h:dR w1 H seen X v w) (he:Y=X):dR w1 H seen Y v w:=he ▸ h
theorem dR.er {w1:World} {H:dZ} {seen:List Tx} {X:Except (Nat×Nat) (aH×List Rw)} {w:World} {l e:Nat} (h:X= .error (l,e)) (he:e≠0) (hl:Hb.aC w.heap H.rb 5=some (.int .i64 (l:Nat))) (hw:Wk w1 w):dR w1 H seen X (.int .i64 (e:Nat)) w:=⟨.inr ⟨l,e,h,he,rfl,hl⟩,hw⟩
theorem tJ (w1:World) (H:dZ) (F:aH) (k ln:Nat) (seen hd:List Tx) (a6:Nat) (O:Option Addr) (Z n:Nat) (w:World) (aD:GS w1 H) (A:iT w1 w H F k ln seen) (hT:Tg w1 a6 9 hd.length (.slice O hd.length Z) (hd.map str)) (hh:hd.length=2∨hd.length=4) (b6:n≤70000) (hcl:hd.getD 0 []≠dD→hd.getD 0 []≠db→0 < F.aX.length):
 aU Tryz.prog 82 (List.toArray [aG H.rb,.slice O hd.length Z,aa n]) w (dR w1 H seen (eD (gE hd) H.eof n F (H.rows.drop k))):=by
 have ao:∀ w,Wk w1 w→bh w.heap O hd:=fun w h=>(hT.wk h).bH.2
 obtain ⟨bv,c0,aZ⟩:∃ a c,H.vr= .slice a H.rows.length c:=by obtain ⟨B0,h1,_⟩:=aD; exact h1.slice
 have aK:∀ (w:World) (k l:Nat) (s:List Tx) (vh:Value),eG w w1.heap.size H k l s vh→Hb.aC w.heap H.rb 1=some (.slice bv H.rows.length c0):=fun w k l s vh h=>by rw [← aZ]; exact (aO h.cells).trans rfl
 refine enter Tryz.func82 rfl Tryz.ntmps82 rfl ?_
 refine U (fun _ bb=>(ae (((bb _ _ (sq (fun _ bk=>U (fun _ bm=> ?_))))))))
 refine ae (((bm _ _ (az (lp (fun aN an wI=> ∃ (i:Nat) (F':aH) (k' aL:Nat),(i≤n)∧(eD (gE hd) H.eof (n - i) F' (H.rows.drop k')=eD (gE hd) H.eof n F (H.rows.drop k))∧(iT w1 wI H F' k' aL seen)∧(F'.aX=F.aX)∧(an 0=aG H.rb)∧(an 1= .slice O hd.length Z)∧(an 2=aa n)∧(an 7=aa i)∧(n - i=aN)) _ ⟨0,F,k,ln,(by omega),rfl,A,rfl,rfl,rfl,rfl,rfl,rfl⟩ ?_)))))
 rintro aN an wI ⟨i,F',k',aL,hi,hX,hSI,hcs,bT,bU,bV,bW,rfl⟩
 refine fx 0 bT (fx 1 bU (fx 2 bV (fx 7 bW ?_)))
 have hSI0:=hSI
 obtain ⟨V,vh,hF,ai,hB,aP,hkl⟩:=hSI
 have b5:H.rows.length≤70000:=by obtain ⟨_,_,_,h⟩:=aD; exact h
 refine sq (fun _ bq=>U (fun _ bs=>(ab (aa i) (ab (aa n) (p (lt rfl rfl) (ag ((bs _ _ ?_))))))))
 refine cd rfl (fun bI=> ?_) (fun bI=> ?_)
 refine au (tn (bq _ _ (sq (fun _ av=>az (sq (fun _ bt=>sq (fun _ bu=> ?_)))))))
 have I:(fun w'=>Wk wI w') wI.drew:=(Md.refl _ _).drew
 refine bC (fun w'=>Wk wI w') rfl wide I (bo 0 rfl (aG H.rb) I (aA 1 rfl (fun _ _=>nc rfl) I (aA 2 rfl (fun _ _=>fa kr rfl) I (aA 3 rfl (fun w' A=>ld bQ rfl (Wk.aC A ((aO ai.cells).trans rfl))) I (bo 4 rfl (aG H.rb) I (aA 5 rfl (fun _ _=>nc rfl) I (aA 6 rfl (fun _ _=>fa tq rfl) I ?_)))))))
 refine aA 7 rfl (fun w' A=>ld rU rfl (Wk.aC A (aK _ _ _ _ _ ai))) I (aA 8 rfl (fun _ _=>ba rA rfl rfl) I (aA 9 rfl (fun _ _=>ge rfl rfl) I (hn (by kernel_rfl) ?_)))
 have hR4:=ai.wk I
 have hF4:=hF.wk I
 have hE4:=aP.trans I
 refine tn (bu _ _ (cd rfl (fun bJ=> ?_) (fun bJ=> ?_)))
 have hnil:H.rows.drop k'= []:=drop_nil (by omega)
 rw [hnil] at hX
 refine U (fun _ aw=>(ab (aG H.rb) (ab (aG H.rb) (p (nc rfl) (p (fa GQ rfl) (p (ld bQ rfl ((aO hR4.cells).trans rfl)) (p (nc rfl) ?_)))))))
 refine p (fa kY rfl) (e (ca fW rfl rfl (v:=aa (H.eof)) rfl hR4.cells (by show _ < 6; omega) fun w5 aR bx=> ?_))
 have hR5:=hR4.cT (k':=k') (ln':=H.eof) aR bx
 have bF:Wk w1 w5:=hE4.trans' aR (fun q aV h=>by have :=ai.lo; omega)
 refine ag ((aw _ _ (U (fun _ ar=>(ae (((ar _ _ (rt ?_)))))))))
 exact tr (br (tr (tr (br (tr (f1 rfl rfl (dR.er (Hj hX (by omega)) (by decide) hR5.bK bF)))))))
 obtain ⟨J,M,ax,ay,b3,c',aq,a0,hCr,aY,⟨a2,hT1⟩,hvl⟩:=aD.get hE4 (k:=k') (by omega)
 rw [aZ] at a0
 cases a0
 have hdl:=congrArg List.length aq
 simp only [List.length_cons] at hdl
 rw [aq] at hX
 have hrow:=hB.row (J,M) (by rw [aq]; exact List.mem_cons_self ..)
 have b7:0 < M.length:=List.length_pos_iff.2 hrow.1
 have hbl:=hB.len
 refine au (tn (bt _ _ (sq (fun _ aw=> ?_))))
 have E:(fun w'=>Wk wI.drew w') wI.drew.drew:=(Md.refl _ _).drew
 refine bC (fun w'=>Wk wI.drew w') rfl wide E (bo 0 rfl (aG H.rb) E (aA 1 rfl (fun _ _=>nc rfl) E (aA 2 rfl (fun _ _=>fa tq rfl) E (aA 3 rfl (fun w' A=>ld rU rfl (Wk.aC A (aK _ _ _ _ _ hR4))) E (bo 4 rfl (aG H.rb) E (aA 5 rfl (fun _ _=>nc rfl) E (aA 6 rfl (fun _ _=>fa kr rfl) E ?_)))))))
 refine aA 7 rfl (fun w' A=>ld bQ rfl (Wk.aC A ((aO hR4.cells).trans rfl))) E (aA 8 rfl (fun _ _=>aJ jV rfl rfl (by omega) (ak.ok (hCr) (ir (by omega)))) E (aA 9 rfl (fun _ _=>fa om rfl) E (aA 10 rfl (fun w' A=>ld gd rfl (Wk.aC A (iu hCr aY 1 (by decide)))) E (aA 11 rfl (fun _ _=>aj) E (hn (by kernel_rfl) ?_)))))
 have hR7:=hR4.wk E
 refine tn (aw _ _ (sq (fun _ ar=> ?_)))
 have C:(fun w'=>Wk wI.drew.drew w') wI.drew.drew.drew:=(Md.refl _ _).drew
 refine dG (fun w'=>Wk wI.drew.drew w') 14 rfl wide C (a3 0 rfl (aG H.rb) C (a3 1 rfl (aG H.rb) C (a5 2 rfl (fun _=>nc rfl) (fun _=>C) (a5 3 rfl (fun _=>fa tq rfl) (fun _=>C) (cO 4 rfl (fun w' A=>ld rU rfl (Wk.aC A (aK _ _ _ _ _ hR7))) C (a3 5 rfl (aG H.rb) C (a5 6 rfl (fun _=>nc rfl) (fun _=>C) ?_)))))))
 refine a5 7 rfl (fun _=>fa kr rfl) (fun _=>C) (cO 8 rfl (fun w' A=>ld bQ rfl (Wk.aC A ((aO hR7.cells).trans rfl))) C (a5 9 rfl (fun _=>aJ jV rfl rfl (by omega) (ak.ok (hCr) (ir (by omega)))) (fun _=>C) (a5 10 rfl (fun _=>fa nf rfl) (fun _=>C) (cO 11 rfl (fun w' A=>ld bQ rfl (Wk.aC A (iu (ak.wk hCr E) aY 0 (by decide)))) C (a5 12 rfl (fun _=>nc rfl) (fun _=>C) (a5 13 rfl (fun _=>fa kY rfl) (fun _=>C) (cD 14 rfl (by kernel_rfl) (by kernel_rfl) (ca fW rfl rfl (v:=aa J) rfl (hR7.wk C).cells (by show _ < 6; omega) fun w8 aE bz=> ?_))))))))
 have hR8:=(hR7.wk C).cT (k':=k') (ln':=J) aE bz
 have hF8:=((hF4.wk E).wk C).rb (hR7.wk C) aE
 have bG:Wk w1 w8:=((hE4.trans E).trans C).trans' aE (fun q aV h=>by have :=ai.lo; omega)
 refine dF (by kernel_rfl) ?_
 refine tn (ar _ _ (U (fun _ bd=>(ab (aG H.rb) (ab (aG H.rb) (p (nc rfl) (p (fa kr rfl) (p (ld bQ rfl ((aO hR8.cells).trans rfl)) ?_))))))))
 refine p (a9 ((k'+1:Nat):Int) rfl rfl (aQ (by omega) (by omega))) (p (nc rfl) (p (fa kr rfl) (e (ca fW rfl rfl (v:=(aa (k'+1))) rfl hR8.cells (by show _ < 6; omega) fun w9 hM9 bB=> ?_))))
 have hR9:=hR8.cT (k':=k'+1) (ln':=J) hM9 bB
 have hF9:=hF8.rb hR8 hM9
 have ac:Wk w1 w9:=bG.trans' hM9 (fun q aV h=>by have :=ai.lo; omega)
 refine ag ((bd _ _ (sq (fun _ bg=>sq (fun _ bi=> ?_)))))
 have G:(fun w'=>Wk w9 w') w9.drew:=(Md.refl _ _).drew
 refine bC (fun w'=>Wk w9 w') rfl wide G (aA 0 rfl (fun _ _=>mv) G (aA 1 rfl (fun _ _=>aJ bA rfl rfl (by omega) (ak.ok ((hT1.wk ac).bH.2) (bl (by omega)))) G (aA 2 rfl (fun w' A=>ld bw rfl (Wk.aC A (bh.get (i:=0) (hT1.wk ac).bH.2 (by omega)))) G (bo 3 rfl (.slice O hd.length Z) G (aA 4 rfl (fun _ _=>aJ bA rfl rfl (by omega) (ak.ok (ao _ ac) (bl (by omega)))) G (aA 5 rfl (fun w' A=>ld bw rfl (Wk.aC A (bh.get (i:=0) (ao _ ac) (by omega)))) G (aA 6 rfl (fun _ _=>ky rfl rfl) G ?_)))))))
 refine hn (by kernel_rfl) ?_
 have hW10:=ac.trans G
 refine tn (bi _ _ (cd rfl (fun aF=> ?_) (fun aF=> ?_)))
 have h0:M.getD 0 []≠hd.getD 0 []:=aF
 refine U (fun _ Y=>(ae (((Y _ _ (rt (tr (br ?_))))))))
 exact tr (tr (br (tr (f1 rfl rfl (dR.er (tI hX (by omega) (HO h0)) (by decide) (hR9.wk G).bK hW10)))))
 have h0:M.getD 0 []=hd.getD 0 []:=Classical.not_not.1 aF
 refine au (tn (bg _ _ ?_))
 refine cX (fun al aM=>(M.take (gE hd).length=gE hd)∧(Wk w9 aM)∧(al 0=aG H.rb)∧(al 1= .slice O hd.length Z)∧(al 2=aa n)∧(al 7=aa i)∧(al 8= .slice ax M.length ay)) ?_ ?_
 refine sq (fun _ Y=> ?_)
 have j:(fun w'=>Wk w9.drew w') w9.drew.drew:=(Md.refl _ _).drew
 refine bC (fun w'=>Wk w9.drew w') rfl wide j (bo 0 rfl (.slice O hd.length Z) j (aA 1 rfl (fun _ _=>ba c9 rfl rfl) j (aA 2 rfl (fun _ _=>a8 rfl rfl) j (aA 3 rfl (fun _ _=>mv) j (jd (t:=75) rfl (fun bM=> ?_) (fun bM=> ?_))))))
 refine bc 4 rfl (by kernel_rfl) rfl rfl rfl (fun _ _=>mv) j (bc 5 rfl (by kernel_rfl) rfl rfl rfl (fun _ _=>ba c9 rfl rfl) j (bc 6 rfl (by kernel_rfl) rfl rfl rfl (fun _ _=>lt rfl rfl) j (bc 7 rfl (by kernel_rfl) rfl rfl rfl (fun _ _=>mv) j (jd (t:=79) rfl (fun bN=> ?_) (fun bN=> ?_)))))
 refine a7 8 rfl (by kernel_rfl) rfl rfl rfl rfl j ?_
 refine a7 9 rfl (by kernel_rfl) rfl rfl rfl rfl j ?_
 refine a7 10 rfl (by kernel_rfl) rfl rfl rfl rfl j ?_
 refine a7 11 rfl (by kernel_rfl) rfl rfl rfl rfl j ?_
 refine a7 12 rfl (by kernel_rfl) rfl rfl rfl rfl j ?_
 refine a7 13 rfl (by kernel_rfl) rfl rfl rfl rfl j ?_
 refine a7 14 rfl (by kernel_rfl) rfl rfl rfl rfl j ?_
 refine bc 15 rfl (by kernel_rfl) rfl rfl rfl (fun _ _=>bf rfl) j (aA 16 rfl (fun _ _=>bf rfl) j (hn (by kernel_rfl) (tn (Y _ _ (ct rfl (U (fun _ am=>(p aj ?_))))))))
 refine ag ((am _ _ (rt (tr (br (tr (tr (br ?_))))))))
 exact tr (f1 rfl rfl (dR.er (tI hX (by omega) (zJ (by omega) (.inl (by omega)))) (by decide) ((hR9.wk G).wk j).bK (hW10.trans j)))
 refine bc 8 rfl (by kernel_rfl) rfl rfl rfl (fun _ _=>mv) j (bc 9 rfl (by kernel_rfl) rfl rfl rfl (fun _ _=>aJ bA rfl rfl (by omega) (ak.ok ((hT1.wk hW10).bH.2) (bl (by omega)))) j (bc 10 rfl (by kernel_rfl) rfl rfl rfl (fun w' A=>ld bw rfl (Wk.aC A (bh.get (i:=1) (hT1.wk hW10).bH.2 (by omega)))) j (bc 11 rfl (by kernel_rfl) rfl rfl rfl (fun _ _=>aB (.slice O hd.length Z) rfl) j (bc 12 rfl (by kernel_rfl) rfl rfl rfl (fun _ _=>aJ bA rfl rfl (by omega) (ak.ok (ao _ hW10) (bl (by omega)))) j (bc 13 rfl (by kernel_rfl) rfl rfl rfl (fun w' A=>ld bw rfl (Wk.aC A (bh.get (i:=1) (ao _ hW10) (by omega)))) j (bc 14 rfl (by kernel_rfl) rfl rfl rfl (fun _ _=>ky rfl rfl) j (bc 15 rfl (by kernel_rfl) rfl rfl rfl (fun _ _=>a4 rfl) j ?_)))))))
 refine aA 16 rfl (fun _ _=>bf rfl) j (hn (by kernel_rfl) (tn (Y _ _ (cd rfl (fun aI=> ?_) (fun aI=> ?_)))))
 refine U (fun _ am=>(ae (((am _ _ (rt (tr (br ?_))))))))
 exact tr (tr (br (tr (f1 rfl rfl (dR.er (tI hX (by omega) (zJ (by omega) (.inr aI))) (by decide) ((hR9.wk G).wk j).bK (hW10.trans j))))))
 exact au (tn (⟨(zK h0 hrow.1 (fun _=>⟨by omega,Classical.not_not.1 aI⟩)),(G.trans j),rfl,rfl,rfl,rfl,rfl⟩))
 refine a7 4 rfl (by kernel_rfl) rfl rfl rfl rfl j ?_
 refine a7 5 rfl (by kernel_rfl) rfl rfl rfl rfl j ?_
 refine a7 6 rfl (by kernel_rfl) rfl rfl rfl rfl j ?_
 refine a7 7 rfl (by kernel_rfl) rfl rfl rfl rfl j ?_
 refine mD 8 rfl (by kernel_rfl) rfl rfl rfl j ?_
 refine mD 9 rfl (by kernel_rfl) rfl rfl rfl j ?_
 refine mD 10 rfl (by kernel_rfl) rfl rfl rfl j ?_
 refine mD 11 rfl (by kernel_rfl) rfl rfl rfl j ?_
 refine mD 12 rfl (by kernel_rfl) rfl rfl rfl j ?_
 refine mD 13 rfl (by kernel_rfl) rfl rfl rfl j ?_
 refine mD 14 rfl (by kernel_rfl) rfl rfl rfl j ?_
 refine a7 15 rfl (by kernel_rfl) rfl rfl rfl rfl j ?_
 exact aA 16 rfl (fun _ _=>a4 rfl) j (hn (by kernel_rfl) (tn (Y _ _ (cf rfl (au (tn (⟨(zK h0 hrow.1 (fun h=>absurd h (by omega))),(G.trans j),rfl,rfl,rfl,rfl,rfl⟩)))))))
 rintro al aM ⟨aW,ap,bX,bY,bZ,b0,b1⟩
 refine fx 0 bX (fx 1 bY (fx 2 bZ (fx 7 b0 (fx 8 b1 (U (fun _ Y=>(ab (aG H.rb) (ab (.slice ax M.length ay) (e (cl Dc (Hq w1 H F' (k'+1) J seen M a2 ax ay aM ⟨V,vh,hF9.wk ap,hR9.wk ap,j8.kV (aq ▸ hB),ac.trans ap,by omega⟩ (hT1.wk (ac.trans ap)) hrow.1 hrow.2.2 (by omega) (fun h1 h2=>by rw [hcs]; exact hcl (h0 ▸ h1) (h0 ▸ h2))) rfl fun b2 a1 bD=> ?_))))))))))
 obtain ⟨bR,hW91⟩:=bD
 obtain ⟨b4,rfl,aT⟩:∃ e:Nat,b2=aa e∧((e=0∧∃ ah,fw F' J M= .ok ah∧iT w1 a1 H ah (k'+1) J seen)∨(e≠0∧fw F' J M= .error e∧Hb.aC a1.heap H.rb 5=some (aa J))):=by
  rcases bR with ⟨ah,h1,h2,h3⟩ | ⟨e,h1,h2,h3,h4⟩
  exact ⟨0,h2,.inl ⟨rfl,ah,h1,h3⟩⟩
  exact ⟨e,h3,.inr ⟨h2,h1,h4⟩⟩
 refine ae (((Y _ _ (U (fun _ am=>(p mv (p (bP rfl rfl) (nl ?_))))))))
 refine tn (am _ _ (cd rfl (fun bL=> ?_) (fun bL=> ?_)))
 obtain ⟨hne,bO,bS⟩:=aT.resolve_left (fun h=>by omega)
 refine U (fun _ bj=>(p mv (ae (((bj _ _ (rt (br ?_))))))))
 exact tr (tr (br (tr (f1 rfl rfl (dR.er (Hh hX (by omega) aW bO) hne bS hW91)))))
 obtain ⟨_,ah,aS,bE⟩:=aT.resolve_right (fun h=>by omega)
 refine au (bn (tn (av _ _ (rg rfl (ab (aa i) (p (ad rfl rfl (bp (by omega))) (p aj (nl ?_))))))))
 exact tn (⟨_,by omega,i+1,ah,k'+1,J,(by omega),((by rw [show n - (i+1)=n - i - 1 by omega]; exact Hk hX (by omega) aW aS)),bE,((Hp aS).1.trans hcs),rfl,rfl,rfl,rfl,rfl⟩)
 refine ext (te _ (te _ (be (tn (bk _ _ (U (fun _ av=>(p aj ?_))))))))
 refine ag ((av _ _ (rt (f1 rfl rfl ?_))))
 rw [show n - i=0 by omega] at hX
 exact ⟨.inl ⟨F',k',aL,Hi hX,rfl,hSI0⟩,aP⟩
theorem G7 (w1:World) (H:dZ) (F:aH) (k ln:Nat) (seen r:List Tx) (aK:Nat) (A:Option Addr) (C:Nat) (w:World) (bj:GS w1 H) (q:iT w1 w H F k ln seen) (hT:Tg w1 aK 9 r.length (.slice A r.length C) (r.map str)) (hrl:∀ x∈r,x.length≤70000) (b2:F.bL.length+F.aliases.length+F.aX.length+F.rules.length+(H.rows.drop k).length < 70000) (hr:r.length=4) (aE:r.getD 0 []=dP∨r.getD 0 []=bO):
 aU Tryz.prog 83 (List.toArray [aG H.rb,.slice A r.length C]) w (dR w1 H seen (eK H.eof F (H.rows.drop k) ln r)):=by
 have hS0:=q
 obtain ⟨V,vh,hF,G,hB,M,hkl⟩:=q
 have E:∀ w,Wk w1 w→bh w.heap A r:=fun w h=>(hT.wk h).bH.2
 have hlo:=G.lo
 have hflo:=hF.lo
 have hbl:=hB.len
 have hbs:=hB.sl
 have hrbl:=(Array.getElem?_eq_some_iff.1 G.cells).1
 have bF:r.getD 0 []≠dD:=by rcases aE with h | h <;> rw [h] <;> decide
 have bG:r.getD 0 []≠db:=by rcases aE with h | h <;> rw [h] <;> decide
 have hr1:(r.getD 1 []).length≤70000:=hrl _ (c6 (by omega))
 have b6:(r.getD 3 []).length≤70000:=hrl _ (c6 (by omega))
 obtain ⟨a8,gq,bZ⟩:=bU hF.cM
 have aP:Hb.aC w.heap H.fb 12=some (.slice a8 F.rules.length gq):=by rw [← bZ]; exact (aO hF.cells).trans rfl
 refine enter Tryz.func83 rfl Tryz.ntmps83 rfl ?_
 refine U (fun _ aY=>(ae (((aY _ _ (U (fun _ a0=>(ab (aG H.rb) ?_))))))))
 refine ab (.slice A r.length C) (p (aJ bA rfl rfl (by omega) (ak.ok (E _ M) (bl (by omega)))) (p (ld bw rfl (bh.get (i:=1) (E _ M) (by omega))) (e (cl xH (zt w1.heap.size H F V k ln seen vh (r.getD 1 []) w hF G hB.kd (by omega) (by omega)) rfl fun b7 w14 bn=> ?_))))
 obtain ⟨⟨x,av,rfl,hfr⟩,hE14⟩:=bn
 have hW14:=M.trans hE14
 refine p mv (p (xt rfl rfl) (p (xt rfl rfl) (p aj (ae (((a0 _ _ (sq (fun _ a1=> ?_)))))))))
 refine U (fun _ a2=>(p mv (p (bP rfl rfl) (ag ((a2 _ _ (cd rfl (fun hc18=> ?_) (fun hc18=> ?_))))))))
 have aS:eC F (r.getD 1 [])= .error av∧av≠0:=by
  rcases hfr with ⟨_,_,h⟩ | h
  omega
  exact h
 refine U (fun _ J=>(p mv (ae (((J _ _ (rt (tr ?_))))))))
 exact f1 rfl rfl (dR.er (sJ aS.1) aS.2 (G.wk hE14).bK hW14)
 obtain ⟨al,hx0,_⟩:eC F (r.getD 1 [])= .ok x∧x≠0∧av=0:=by
  rcases hfr with h | ⟨_,h⟩
  exact h
  omega
 refine au (tn (a1 _ _ ?_))
 refine cX (fun am aI=>(r.getD 2 []= [89]∨r.getD 2 []= [78])∧(aI=w14)∧(am 0=aG H.rb)∧(am 1= .slice A r.length C)∧(am 5=bq x)) ?_ ?_
 refine U (fun _ J=>(ab (.slice A r.length C) (p (aJ bA rfl rfl (by omega) (ak.ok (E _ hW14) (bl (by omega)))) (p (ld bw rfl (bh.get (i:=2) (E _ hW14) (by omega))) (p (ky rfl rfl) (p mv (gs (t:=24) rfl (fun aD=> ?_) (fun aD=> ?_))))))))
 refine pg rfl rfl rfl (aB (.slice A r.length C) rfl) (pg rfl rfl rfl (aJ bA rfl rfl (by omega) (ak.ok (E _ hW14) (bl (by omega)))) (pg rfl rfl rfl (ld bw rfl (bh.get (i:=2) (E _ hW14) (by omega))) (pg rfl rfl rfl (ky rfl rfl) (p (bf rfl) (ag ((J _ _ (cd rfl (fun ax=> ?_) (fun ax=> ?_)))))))))
 refine U (fun _ aq=>(ae (((aq _ _ (rt (tr (f1 rfl rfl ?_))))))))
 exact dR.er (sK al aD ax) (by decide) (G.wk hE14).bK hW14
 exact au (tn (⟨(.inr (Classical.not_not.1 ax)),rfl,rfl,rfl,rfl⟩))
 refine sk rfl rfl rfl rfl (sk rfl rfl rfl rfl (sk rfl rfl rfl rfl (sk rfl rfl rfl rfl (p (a4 rfl) (ag ((J _ _ (cf rfl ?_))))))))
 exact au (tn (⟨(.inl (Classical.not_not.1 aD)),rfl,rfl,rfl,rfl⟩))
 rintro am aI ⟨aF,b0,bM,bN,bQ⟩
 refine fx 0 bM (fx 1 bN (fx 5 bQ ?_))
 subst b0
 have hW6:=hW14
 refine U (fun _ J=>(ab (.slice A r.length C) (p (aJ bA rfl rfl (by omega) (ak.ok (E _ hW6) (bl (by omega)))) (p (ld bw rfl (bh.get (i:=3) (E _ hW6) (by omega))) (e (cl mu (mM (r.getD 3 []) 1024 aI (by omega) (by omega)) rfl fun b9 O bp=> ?_))))))
 obtain ⟨rfl,hE34⟩:=bp
 have hW34:=hW6.trans hE34
 have hE34x:=hE14.trans hE34
 have hnle:=lY (r.getD 3 []) 1024
 refine p mv (p (xt rfl rfl) (p (xt rfl rfl) (p aj (ae (((J _ _ (sq (fun _ aq=> ?_)))))))))
 refine U (fun _ a6=>(p mv (p (bP rfl rfl) (ag ((a6 _ _ (cd rfl (fun bx=> ?_) (fun bx=> ?_))))))))
 refine U (fun _ ar=>(p mv (ae (((ar _ _ (rt (tr ?_))))))))
 refine f1 rfl rfl ?_
 have h13:=k8 (s:=r.getD 3 []) (most:=1024) (by omega)
 show dR w1 H seen _ (.int .i64 (cH (r.getD 3 []) 1024).2) O
 rw [h13.2]
 exact dR.er (xM al aF h13.1) (by decide) (G.wk hE34x).bK hW34
 have hnx:=j4 (by omega :(cH (r.getD 3 []) 1024).2=0)
 have hnl:=hnle (by omega)
 obtain ⟨n,hn0⟩:∃ n,n=(cH (r.getD 3 []) 1024).1:=⟨_,rfl⟩
 rw [← hn0] at hnx hnl
 refine au (tn (aq _ _ (sq (fun _ ar=>U (fun _ a7=>(ab (aG H.rb) (p (nc rfl) (p (fa ik rfl) ?_))))))))
 refine p (ld h8 rfl ((aO (G.wk hE34x).cells).trans rfl)) (p (nc rfl) (p (fa jW rfl) (p (ld kP rfl (Wk.aC hE34x aP)) (p (ba ve rfl rfl) (p mv (p (a9 ((F.rules.length+(cH (r.getD 3 []) 1024).1:Nat):Int) rfl rfl (aQ (by omega) (by omega))) (p (gt rfl rfl) ?_)))))))
 refine ag ((a7 _ _ (cd rfl (fun bz=> ?_) (fun bz=> ?_))))
 refine U (fun _ an=>(ae (((an _ _ (rt (tr (f1 rfl rfl ?_))))))))
 exact dR.er (xN al aF hnx (by omega)) (by decide) (G.wk hE34x).bK hW34
 refine au (tn (ar _ _ (sq (fun _ an=> ?_))))
 have a:(fun w'=>Wk O w') O.drew:=(Md.refl _ _).drew
 refine bC (fun w'=>Wk O w') rfl wide a (bo 0 rfl (bq x) a (bo 1 rfl (.slice A r.length C) a (aA 2 rfl (fun _ _=>aJ bA rfl rfl (by omega) (ak.ok (E _ hW34) (bl (by omega)))) a (aA 3 rfl (fun w' q=>ld bw rfl (Wk.aC q (bh.get (i:=2) (E _ hW34) (by omega)))) a (aA 4 rfl (fun _ _=>cG rfl rfl) a (bo 5 rfl (aG H.rb) a (aA 6 rfl (fun _ _=>nc rfl) a ?_)))))))
 refine aA 7 rfl (fun _ _=>fa ik rfl) a (aA 8 rfl (fun w' q=>ld h8 rfl (Wk.aC q ((aO (G.wk hE34x).cells).trans rfl))) a (aA 9 rfl (fun _ _=>nc rfl) a (aA 10 rfl (fun _ _=>fa jW rfl) a (aA 11 rfl (fun w' q=>ld kP rfl (Wk.aC q (Wk.aC hE34x aP))) a (aA 12 rfl (fun _ _=>ba ve rfl rfl) a (aA 13 rfl (fun _ _=>mv) a (aA 14 rfl (fun _ _=>bY (ps:= [(0,bq x),(1,aa 2),(2,.bool (decide (r.getD 2 []= [89]))),(3,aa (F.rules.length)),(4,aa ((cH (r.getD 3 []) 1024).1))]) (L:= [bq x,aa 2,.bool (decide (r.getD 2 []= [89])),aa (F.rules.length),aa ((cH (r.getD 3 []) 1024).1)]) BA rfl (rfl)) a ?_)))))))
 refine he 15 rfl (by kernel_rfl) (fH mR fun b8 w8 hb8 ai bd=> ?_)
 have hz8:=ai.size
 have hz11:=a.size
 have bs:(fun w'=>Wk O w') w8:=a.trans ai.md
 refine ⟨bs,?_⟩
 refine he 16 rfl (by kernel_rfl) (fV lL rfl rfl rfl rfl bd (by decide) fun w11 aL bb=> ?_)
 have ac:Wk w w11:=(hE34x.trans (a.trans ai.md)).trans' aL (fun k hk h=>by have :=hE34x.size; omega)
 have aR:w11.heap[b8]? =some (.cells [bq x,aa 2,.bool (decide (r.getD 2 []= [89])),aa (F.rules.length),aa n].toArray 129 (0,0)):=by rw [hn0]; exact bb
 have aN:w.heap.size≤b8:=by have :=hE34x.size; omega
 have bt:(fun w'=>Wk O w') w11:=(a.trans ai.md).trans' aL (fun k hk h=>by omega)
 refine ⟨bt,?_⟩
 refine hn (by kernel_rfl) (tn (an _ _ ?_))
 refine cX (fun Y I=>(I.heap[b8]? =some (.cells [bq x,.int .i64 ((if r.getD 0 []=bO then 2 else 1:Nat):Nat),.bool (decide (r.getD 2 []= [89])),aa (F.rules.length),aa n].toArray 129 (0,0)))∧(Wk w I)∧(w.heap.size≤b8)∧(Y 0=aG H.rb)∧(Y 1= .slice A r.length C)∧(Y 5=bq x)∧(Y 7=aa n)∧(Y 8=aG b8)) ?_ ?_
 refine U (fun _ ao=>(ab (.slice A r.length C) (p (aJ bA rfl rfl (by omega) (ak.ok (E _ (M.trans ac)) (bl (by omega)))) (p (ld bw rfl (bh.get (i:=0) (E _ (M.trans ac)) (by omega))) (p (cG rfl rfl) (ag ((ao _ _ ?_))))))))
 refine cd rfl (fun ay=> ?_) (fun ay=> ?_)
 exact rg rfl (p (fa qo rfl) (e (ca fW rfl rfl (v:=aa 1) rfl aR (by show _ < 5; omega) fun w13 bk bc=>ag ((⟨((by rw [if_neg (show ¬r.getD 0 []=bO from fun h=>by have h2:r.getD 0 []=dP:=ay; rw [h2] at h; exact absurd h (by decide))]; exact bc)),((ac.trans' bk (fun k hk h=>by omega))),aN,rfl,rfl,rfl,(by rw [hn0]; rfl),rfl⟩)))))
 exact au (tn (⟨((by rw [if_pos (aE.resolve_left ay)]; exact aR)),ac,aN,rfl,rfl,rfl,(by rw [hn0]; rfl),rfl⟩))
 rintro Y I ⟨bB,ah,b5,bR,bS,bT,bW,bX⟩
 refine fx 0 bR (fx 1 bS (fx 5 bT (fx 7 bW (fx 8 bX ?_))))
 have hF13:=hF.wk ah
 have hR13:=G.wk ah
 have aT:¬(V.v11.ownBlock=some H.rb):=cg hF13.dp hR13.cells (by decide)
 have bI:¬(V.v11.ownBlock=some H.fb):=cg hF13.dp hF13.cells (by decide)
 have bE:¬(V.v11.ownBlock=some b8):=fun h=>by have :=(c7 hF.dp h).2; omega
 refine sq (fun _ ao=> ?_)
 have hS14:(fun w'=>Md (fun k=>V.v11.ownBlock=some k) I w') I.drew:=(Md.refl _ _).drew
 refine dG (fun w'=>Md (fun k=>V.v11.ownBlock=some k) I w') 16 rfl wide hS14 (a3 0 rfl (aG H.rb) hS14 (a5 1 rfl (fun _=>nc rfl) (fun _=>hS14) (a5 2 rfl (fun _=>fa ik rfl) (fun _=>hS14) (cO 3 rfl (fun w' q=>ld h8 rfl (Md.aC q ((aO hR13.cells).trans rfl) aT)) hS14 (a3 4 rfl (aG H.rb) hS14 (a5 5 rfl (fun _=>nc rfl) (fun _=>hS14) (a5 6 rfl (fun _=>fa ik rfl) (fun _=>hS14) ?_)))))))
 refine cO 7 rfl (fun w' q=>ld h8 rfl (Md.aC q ((aO hR13.cells).trans rfl) aT)) hS14 (a5 8 rfl (fun _=>nc rfl) (fun _=>hS14) (a5 9 rfl (fun _=>fa kW rfl) (fun _=>hS14) (cO 10 rfl (fun w' q=>ld lC rfl (Md.aC q ((aO hF13.cells).trans rfl) bI)) hS14 (cO 11 rfl (fun w' q=>dx mX rfl (rfl) (fun j hj=>bD.c5 ⟨_,Md.az q bB bE⟩ j)) hS14 (fA 12 rfl (by kernel_rfl) (ib Bp rfl rfl rfl fun b1 w83 b3 bm bg=> ?_))))))
 have hE83:=e6 bm.md
 have hF14:=hF13.wk hE83
 have hR14x:=hR13.wk hE83
 have hz83:=(ah.trans hE83).size
 have aM:(fun w'=>Md (fun k=>V.v11.ownBlock=some k) I w') w83:=Md.mono hE83 (fun _ _ h=>h.elim)
 refine ⟨aM,?_⟩
 refine fA 13 rfl (by kernel_rfl) (ap Bp (hF14.dp) rfl (by omega) rfl (ak.cQ bg) (rfl) (rfl) (by omega) (by omega) fun aW w84 aV Z hz84 b4=> ?_)
 have hR15:=hR14x.own hF14.dp Z (by decide)
 have hc15:=Z.az hF14.cells (cg hF14.dp hF14.cells (by decide))
 have bJ:World.ownsRow w84 w1.heap.size 129 5 aW (F.aX++ [(⟨x,(if r.getD 0 []=bO then 2 else 1:Nat),(decide (r.getD 2 []= [89])),F.rules.length,n⟩:bV)]).length (lR (F.aX++ [(⟨x,(if r.getD 0 []=bO then 2 else 1:Nat),(decide (r.getD 2 []= [89])),F.rules.length,n⟩:bV)])):=by rw [show lR (F.aX++ [(⟨x,(if r.getD 0 []=bO then 2 else 1:Nat),(decide (r.getD 2 []= [89])),F.rules.length,n⟩:bV)])=lR F.aX++jx (⟨x,(if r.getD 0 []=bO then 2 else 1:Nat),(decide (r.getD 2 []= [89])),F.rules.length,n⟩:bV) from by simp [lR],List.length_append]; exact aV
 have bu:Wk w1 w84:=(M.trans (ah.trans hE83)).trans' Z (fun k hk h=>by have :=(c7 hF14.dp h).1; omega)
 have aw:(fun w'=>Md (fun k=>V.v11.ownBlock=some k) I w') w84:=aM.trans' Z (fun _ _ h=>h)
 refine ⟨aw,?_⟩
 refine a5 14 rfl (fun _=>nc rfl) (fun _=>aw) (a5 15 rfl (fun _=>fa kW rfl) (fun _=>aw) (cD 16 rfl (by kernel_rfl) (by kernel_rfl) (ca FE rfl rfl (v:=aW) (dT aV) hc15 (by show _ < 13; omega) fun w9 hM9 bi=> ?_)))
 have hF16:=dz.rZ (x:=(⟨x,(if r.getD 0 []=bO then 2 else 1:Nat),(decide (r.getD 2 []= [89])),F.rules.length,n⟩:bV)) hF14 Z bJ hM9 bi
 have hR16:=hR15.ko hc15 hM9
 have bv:Wk w1 w9:=bu.trans' hM9 (fun k hk h=>by omega)
 refine dF (by kernel_rfl) ?_
 refine tn (ao _ _ (U (fun _ aZ=>(ab (aG H.rb) (ab (.slice A r.length C) (ab (aa n) (e (cl sB (tJ w1 H {F with aX:=F.aX++ [(⟨x,(if r.getD 0 []=bO then 2 else 1:Nat),(decide (r.getD 2 []= [89])),F.rules.length,n⟩:bV)]} k ln seen r aK A C n w9 bj ⟨_,vh,hF16,hR16,⟨by simp only [List.length_append,List.length_singleton]; omega,hbs,hB.row,hB.kd⟩,bv,hkl⟩ hT (.inr hr) (by omega) (fun _ _=>by simp only [List.length_append,List.length_singleton]; omega)) rfl fun cb cc br=>p aj ?_))))))))
 exact ag ((aZ _ _ (rt (f1 rfl rfl (dR.eq br (EF hr bF bG al aF hnx (by omega)))))))
theorem Ho (w1:World) (H:dZ) (F:aH) (k ln:Nat) (seen r:List Tx) (am:Nat) (q:Option Addr) (A:Nat) (w:World) (aB:GS w1 H) (al:iT w1 w H F k ln seen) (hT:Tg w1 am 9 r.length (.slice q r.length A) (r.map str)) (hrl:∀ x∈r,x.length≤70000) (bB:F.bL.length+F.aliases.length+F.aX.length+F.rules.length+(H.rows.drop k).length < 70000) (hw:r.length=width (r.getD 0 [])) (bG:width (r.getD 0 [])≠0):
 aU Tryz.prog 43 (List.toArray [aG H.rb,.slice q r.length A]) w (dR w1 H seen (bz H.eof F seen (H.rows.drop k) ln r)):=by
 have hS0:=al
 obtain ⟨V,vh,hF,j,hB,a,hkl⟩:=al
 have C:∀ w,Wk w1 w→bh w.heap q r:=fun w h=>(hT.wk h).bH.2
 have hlo:=j.lo
 have hflo:=hF.lo
 have hbl:=hB.len
 have hbs:=hB.sl
 have hrbl:=(Array.getElem?_eq_some_iff.1 j.cells).1
 have hrl0:0 < r.length:=by omega
 have hr1:2≤r.length→(r.getD 1 []).length≤70000:=fun h=>hrl _ (c6 (by omega))
 refine enter Tryz.func43 rfl Tryz.ntmps43 rfl ?_
 refine U (fun _ a0=>(ae (((a0 _ _ (U (fun _ a2=>(ab (.slice q r.length A) ?_))))))))
 refine p (aJ bA rfl rfl (by omega) (ak.ok (C _ a) (bl (by omega)))) (p (ld bw rfl (bh.get (i:=0) (C _ a) (by omega))) (ae (((a2 _ _ (U (fun _ a7=>(p mv ?_))))))))
 refine e (cl sy (tN (r.getD 0 []) w) rfl fun b6 Y bp=> ?_)
 obtain ⟨rfl,bM⟩:=bp
 subst bM
 refine ae (((a7 _ _ (sq (fun _ a9=>U (fun _ ba=>(p mv (p (ge rfl rfl) ?_))))))))
 refine ag ((ba _ _ (cd rfl (fun aL=> ?_) (fun aL=> ?_))))
 have hsp:=nz.1 aL
 have G:r.length=2:=by rw [hw,B5 hsp]
 have hr1:=hr1 (by omega)
 refine U (fun _ aw=>(ab (aG H.rb) (ab (.slice q r.length A) (p (aJ bA rfl rfl (by omega) (ak.ok (C _ a) (bl (by omega)))) (p (ld bw rfl (bh.get (i:=1) (C _ a) (by omega))) (e (cl xH (zt w1.heap.size H F V k ln seen vh (r.getD 1 []) Y hF j hB.kd (by omega) (by omega)) rfl fun b7 ci bs=> ?_)))))))
 obtain ⟨⟨x,bY,rfl,hfr⟩,hE32⟩:=bs
 have hW32:=a.trans hE32
 refine p mv (p (xt rfl rfl) (p (xt rfl rfl) (p aj (ae (((aw _ _ (sq (fun _ ax=> ?_)))))))))
 refine rg rfl (ab (aG H.rb) (p (nc rfl) (p (fa ik rfl) (p (ld h8 rfl ((aO (j.wk hE32).cells).trans rfl)) (p mv (p mv (p (nc rfl) ?_)))))))
 refine p (fa qn rfl) (p (il pC rfl rfl (by rw [uW hsp]; have :=uX hsp; omega)) (e (ca fW rfl rfl (v:=bq x) rfl (hF.wk hE32).cells (by show 0 +3 +(k9 (r.getD 0 [])).toNat*1 < 13; rw [uW hsp]; have :=uX hsp; omega) fun w5 aD bb=> ?_)))
 have hset:=Ht (F:=F) (V:=V) (x:=x) (o:=0 +3 +(k9 (r.getD 0 [])).toNat*1) hF.ee (uX hsp) (by rw [uW hsp]; omega)
 have bc:w5.heap[H.fb]? =some (.cells (jX {F with sp:=F.sp.set (cJ.idxOf (r.getD 0 [])) x} V).toArray 120 (0,0)):=by rw [← hset]; exact bb
 have hF5:=(hF.wk hE32).put (F':= {F with sp:=F.sp.set (cJ.idxOf (r.getD 0 [])) x}) aD bc rfl rfl rfl rfl (by show (F.sp.set _ _).length=5; rw [List.length_set]; exact hF.ee)
 have hR5:=(j.wk hE32).fb (hF.wk hE32) aD
 have aE:Wk w1 w5:=hW32.trans' aD (fun k hk h=>by omega)
 refine ag ((ax _ _ (U (fun _ ay=>(p mv (ae (((ay _ _ ?_)))))))))
 refine rt (tr (f1 rfl rfl ?_))
 rcases hfr with ⟨aT,_,rfl⟩ | ⟨aT,hne⟩
 exact ⟨.inl ⟨_,k,ln,(zA hsp).trans (Bv aT),rfl,⟨V,vh,hF5,hR5,⟨hB.len,hbs,hB.row,hB.kd⟩,aE,hkl⟩⟩,aE⟩
 exact dR.er ((zA hsp).trans (Bu aT)) hne hR5.bK aE
 have bN:r.getD 0 []∉cJ:=fun h=>aL (nz.2 h)
 refine au (tn (a9 _ _ (sq (fun _ aw=>U (fun _ ax=>(p mv (ag ((ax _ _ ?_)))))))))
 refine az (U (fun _ ay=>(p (cG rfl rfl) (ae (((ay _ _ (cd rfl (fun aM=> ?_) (fun aM=> ?_)))))))))
 have h1:r.getD 0 []=eM:=aM
 have G:r.length=2:=by rw [hw,h1]; rfl
 have hr1:=hr1 (by omega)
 refine U (fun _ aA=>(ab (aG H.rb) (ab (.slice q r.length A) (e (cl sA (Hr w1 H F k ln seen r am q A Y hS0 (hT.wk a) G hrl) rfl fun b8 cj bt=>ae (((aA _ _ ?_))))))))
 exact rt (br (tr (f1 rfl rfl (dR.eq bt (Hw h1)))))
 have bQ:¬r.getD 0 []=eM:=aM
 refine U (fun _ aA=>(p (cG rfl rfl) (ae (((aA _ _ (cd rfl (fun aN=> ?_) (fun aN=> ?_))))))))
 have h2:r.getD 0 []=eZ:=aN
 have G:r.length=2:=by rw [hw,h2]; rfl
 have hr1:=hr1 (by omega)
 refine U (fun _ ar=>(ab (.slice q r.length A) (p (aJ bA rfl rfl (by omega) (ak.ok (C _ a) (bl (by omega)))) (p (ld bw rfl (bh.get (i:=1) (C _ a) (by omega))) (e (cl nZ (oH (r.getD 1 []) Y (by omega)) rfl fun b9 w56 bu=> ?_))))))
 obtain ⟨rfl,hE56⟩:=bu
 have hW56:=a.trans hE56
 refine ae (((ar _ _ (sq (fun _ an=>U (fun _ Z=>(p mv (p (no rfl) ?_))))))))
 refine ag ((Z _ _ (cb rfl (fun aP=> ?_) (fun aP=> ?_))))
 refine U (fun _ E=>(ae (((E _ _ (rt (tr (br ?_))))))))
 exact tr (f1 rfl rfl (dR.er ((zz h2).trans (Bc (by simpa using aP))) (by decide) (j.wk hE56).bK hW56))
 refine au (tn (an _ _ (sq (fun _ E=> ?_))))
 have hS14:(fun w'=>Wk w56 w') w56.drew:=(Md.refl _ _).drew
 refine dG (fun w'=>Wk w56 w') 9 rfl wide hS14 (a3 0 rfl (aG H.rb) hS14 (a5 1 rfl (fun _=>nc rfl) (fun _=>hS14) (a5 2 rfl (fun _=>fa ik rfl) (fun _=>hS14) (cO 3 rfl (fun w' al=>ld h8 rfl (Wk.aC al ((aO (j.wk hE56).cells).trans rfl))) hS14 (a3 4 rfl (.slice q r.length A) hS14 (a5 5 rfl (fun _=>aJ bA rfl rfl (by omega) (ak.ok (C _ hW56) (bl (by omega)))) (fun _=>hS14) (cO 6 rfl (fun w' al=>ld bw rfl (Wk.aC al (bh.get (i:=1) (C _ hW56) (by omega)))) hS14 ?_)))))))
 refine a5 7 rfl (fun _=>nc rfl) (fun _=>hS14) (a5 8 rfl (fun _=>fa GN rfl) (fun _=>hS14) (cD 9 rfl (by kernel_rfl) (by kernel_rfl) (ca jc rfl rfl (v:=str (r.getD 1 [])) rfl ((hF.wk hE56).wk hS14).cells (by show _ < 13; omega) fun w9 hM9 ap=> ?_)))
 have hF9:=((hF.wk hE56).wk hS14).put (F':= {F with mx:=r.getD 1 []}) hM9 ap rfl rfl rfl rfl hF.ee
 have hR9:=((j.wk hE56).wk hS14).fb ((hF.wk hE56).wk hS14) hM9
 have M:Wk w1 w9:=(hW56.trans hS14).trans' hM9 (fun k hk h=>by omega)
 refine dF (by kernel_rfl) ?_
 refine tn (E _ _ (U (fun _ I=>(ae (((I _ _ (rt (br ?_)))))))))
 exact tr (f1 rfl rfl (⟨.inl ⟨_,k,ln,(zz h2).trans (Be (by simpa using aP)),rfl,⟨V,vh,hF9,hR9,⟨hB.len,hbs,hB.row,hB.kd⟩,M,hkl⟩⟩,M⟩))
 have bR:¬r.getD 0 []=eZ:=aN
 refine U (fun _ ar=>(p (cG rfl rfl) (ae (((ar _ _ (cd rfl (fun aQ=> ?_) (fun aQ=> ?_))))))))
 have h3:r.getD 0 []=fk:=aQ
 have G:r.length=2:=by rw [hw,h3]; rfl
 have hr1:=hr1 (by omega)
 refine U (fun _ an=>(ab (.slice q r.length A) (p (aJ bA rfl rfl (by omega) (ak.ok (C _ a) (bl (by omega)))) (p (ld bw rfl (bh.get (i:=1) (C _ a) (by omega))) (e (cl Eh (Kr (r.getD 1 []) Y (by omega)) rfl fun cc ck bv=> ?_))))))
 obtain ⟨rfl,ai⟩:=bv
 have hW74:=a.trans ai
 refine p mv (p (xt rfl rfl) (p (xt rfl rfl) (p aj (ae (((an _ _ (sq (fun _ Z=> ?_)))))))))
 refine rg rfl (ab (aG H.rb) (p (nc rfl) (p (fa ik rfl) (p (ld h8 rfl ((aO (j.wk ai).cells).trans rfl)) (p mv (p (nc rfl) (p (fa GO rfl) ?_)))))))
 refine e (ca jc rfl rfl (v:=str (letE (r.getD 1 [])).1) rfl (hF.wk ai).cells (by show _ < 13; omega) fun w9 hM9 ap=> ?_)
 have hF9:=(hF.wk ai).put (F':= {F with tr:=(letE (r.getD 1 [])).1}) hM9 ap rfl rfl rfl rfl hF.ee
 have hR9:=(j.wk ai).fb (hF.wk ai) hM9
 have M:Wk w1 w9:=hW74.trans' hM9 (fun k hk h=>by omega)
 refine ag ((Z _ _ (U (fun _ E=>(p mv (ae (((E _ _ ?_)))))))))
 refine rt (br (tr (f1 rfl rfl ?_)))
 by_cases h:(letE (r.getD 1 [])).2=0
 exact ⟨.inl ⟨_,k,ln,(zB h3).trans (BM h),by rw [h]; rfl,⟨V,vh,hF9,hR9,⟨hB.len,hbs,hB.row,hB.kd⟩,M,hkl⟩⟩,M⟩
 exact dR.er ((zB h3).trans (BL h)) h hR9.bK M
 have bS:¬r.getD 0 []=fk:=aQ
 refine U (fun _ an=>(p (cG rfl rfl) (ae (((an _ _ (cd rfl (fun aR=> ?_) (fun aR=> ?_))))))))
 have h4:r.getD 0 []=gu:=aR
 have G:r.length=2:=by rw [hw,h4]; rfl
 have hr1:=hr1 (by omega)
 refine U (fun _ Z=>(ab (.slice q r.length A) (p (aJ bA rfl rfl (by omega) (ak.ok (C _ a) (bl (by omega)))) (p (ld bw rfl (bh.get (i:=1) (C _ a) (by omega))) (e (cl mu (mM (r.getD 1 []) 64 Y (by omega) (by omega)) rfl fun ce cm bx=> ?_))))))
 obtain ⟨rfl,O⟩:=bx
 have hW91:=a.trans O
 refine p mv (p (xt rfl rfl) (p (xt rfl rfl) (p aj (ae (((Z _ _ (sq (fun _ E=> ?_)))))))))
 refine U (fun _ I=>(p mv (p (bP rfl rfl) (p mv (gs (t:=96) rfl (fun aW=> ?_) (fun aW=> ?_))))))
 refine sk rfl rfl rfl rfl (sk rfl rfl rfl rfl (p (bf rfl) (ag ((I _ _ (ct rfl (U (fun _ J=> ?_))))))))
 refine ae (((J _ _ (rt (tr (br (tr (f1 rfl rfl ?_))))))))
 exact dR.er ((tP h4).trans (Ai (k8 aW).1)) (by decide) (j.wk O).bK hW91
 refine pg rfl rfl rfl mv (pg rfl rfl rfl (a8 rfl rfl) (p (a4 rfl) (ag ((I _ _ (cd rfl (fun bE=> ?_) (fun bE=> ?_)))))))
 refine U (fun _ J=>(ae (((J _ _ (rt (tr (br ?_))))))))
 exact tr (f1 rfl rfl (dR.er ((tP h4).trans (Aj (j4 (by omega)) (by omega))) (by decide) (j.wk O).bK hW91))
 refine au (tn (E _ _ (U (fun _ J=>(ab (aG H.rb) (p (nc rfl) (p (fa ik rfl) (p (ld h8 rfl ((aO (j.wk O).cells).trans rfl)) ?_))))))))
 refine p mv (p (nc rfl) (p (fa GP rfl) (e (ca fW rfl rfl (v:=aa ((cH (r.getD 1 []) 64).1)) rfl (hF.wk O).cells (by show _ < 13; omega) fun w9 hM9 ap=> ?_))))
 have hF9:=(hF.wk O).put (F':= {F with least:=(cH (r.getD 1 []) 64).1}) hM9 ap rfl rfl rfl rfl hF.ee
 have hR9:=(j.wk O).fb (hF.wk O) hM9
 have M:Wk w1 w9:=hW91.trans' hM9 (fun k hk h=>by omega)
 refine ag ((J _ _ (U (fun _ ac=>(ae (((ac _ _ (rt ?_)))))))))
 exact br (tr (f1 rfl rfl (⟨.inl ⟨_,k,ln,(tP h4).trans (Ak (j4 (by omega)) (by omega)),rfl,⟨V,vh,hF9,hR9,⟨hB.len,hbs,hB.row,hB.kd⟩,M,hkl⟩⟩,M⟩)))
 have bT:¬r.getD 0 []=gu:=aR
 refine U (fun _ Z=>(p (cG rfl rfl) (ae (((Z _ _ (cd rfl (fun aF=> ?_) (fun aF=> ?_))))))))
 have h5:r.getD 0 []=dD:=aF
 have G:r.length=2:=by rw [hw,h5]; rfl
 have hr1:=hr1 (by omega)
 refine U (fun _ E=>(ab (.slice q r.length A) (p (aJ bA rfl rfl (by omega) (ak.ok (C _ a) (bl (by omega)))) (p (ld bw rfl (bh.get (i:=1) (C _ a) (by omega))) (e (cl mu (mM (r.getD 1 []) 256 Y (by omega) (by omega)) rfl fun bZ w113 bd=> ?_))))))
 obtain ⟨rfl,hE113⟩:=bd
 have hW113:=a.trans hE113
 have hnle:=lY (r.getD 1 []) 256
 refine p mv (p (xt rfl rfl) (p (xt rfl rfl) (p aj (ae (((E _ _ (sq (fun _ I=> ?_)))))))))
 refine U (fun _ J=>(p mv (p (bP rfl rfl) (ag ((J _ _ (cd rfl (fun bC=> ?_) (fun bC=> ?_))))))))
 refine U (fun _ ac=>(p mv (ae (((ac _ _ (rt (tr ?_))))))))
 refine br (tr (f1 rfl rfl ?_))
 have h13:=k8 (s:=r.getD 1 []) (most:=256) (by omega)
 show dR w1 H seen _ (.int .i64 (cH (r.getD 1 []) 256).2) w113
 rw [h13.2]
 exact dR.er ((zy h5).trans (AY h13.1)) (by decide) (j.wk hE113).bK hW113
 refine au (tn (I _ _ (U (fun _ ac=>(ab (aG H.rb) (ab (.slice q r.length A) (p mv (e (cl sB (tJ w1 H F k ln seen r am q A (cH (r.getD 1 []) 256).1 w113 aB ⟨V,vh,hF.wk hE113,j.wk hE113,hB,hW113,hkl⟩ hT (.inl G) (by have :=hnle (by omega); omega) (fun h _=>absurd h5 h)) rfl fun b0 cf bg=> ?_)))))))))
 exact ae (((ac _ _ (rt (br (tr (f1 rfl rfl (dR.eq bg ((zy h5).trans (Ki G h5 (j4 (by omega))))))))))))
 have bU:¬r.getD 0 []=dD:=aF
 refine U (fun _ E=>(p (cG rfl rfl) (ae (((E _ _ (cd rfl (fun aI=> ?_) (fun aI=> ?_))))))))
 have ah:r.getD 0 []=db:=aI
 have G:r.length=2:=by rw [hw,ah]; rfl
 have hr1:=hr1 (by omega)
 refine U (fun _ I=>(ab (aG H.rb) (e (cl sr (tO w1.heap.size H k ln seen vh dP Y j (by omega)) rfl fun b1 bW bi=> ?_))))
 obtain ⟨rfl,bI⟩:=bi
 subst bI
 refine ae (((I _ _ (U (fun _ J=>(ab (aG H.rb) (e (cl sr (tO w1.heap.size H k ln seen vh bO bW j (by omega)) rfl fun b2 bX bj=> ?_))))))))
 obtain ⟨rfl,bJ⟩:=bj
 subst bJ
 refine ae (((J _ _ (sq (fun _ ac=>U (fun _ aV=>(p mv (p mv ?_))))))))
 refine gb (t:=130) rfl (fun aS=> ?_) (fun aS=> ?_)
 refine sk rfl rfl rfl rfl (p (bf rfl) (ag ((aV _ _ (ct rfl (U (fun _ ao=>(p aj ?_))))))))
 exact ag ((ao _ _ (rt (tr (br (tr (f1 rfl rfl (dR.er ((qE ah).trans (rW (.inl (of_decide_eq_true aS)))) (by decide) j.bK a))))))))
 refine pg rfl rfl rfl mv (p (a4 rfl) (ag ((aV _ _ (cb rfl (fun aK=> ?_) (fun aK=> ?_))))))
 refine U (fun _ ao=>(ae (((ao _ _ (rt (tr (br ?_))))))))
 exact tr (f1 rfl rfl (dR.er ((qE ah).trans (rW (.inr (of_decide_eq_true aK)))) (by decide) j.bK a))
 have aY:¬(dP∈seen∨bO∈seen):=fun h=>h.elim (of_decide_eq_false aS) (of_decide_eq_false aK)
 refine au (tn (ac _ _ (U (fun _ ao=>(ab (.slice q r.length A) (p (aJ bA rfl rfl (by omega) (ak.ok (C _ a) (bl (by omega)))) (p (ld bw rfl (bh.get (i:=1) (C _ a) (by omega))) (e (cl mu (mM (r.getD 1 []) 1024 bX (by omega) (by omega)) rfl fun b3 aZ bk=> ?_)))))))))
 obtain ⟨rfl,aq⟩:=bk
 have hW137:=a.trans aq
 have hnle:=lY (r.getD 1 []) 1024
 refine p mv (p (xt rfl rfl) (p (xt rfl rfl) (p aj (ae (((ao _ _ (sq (fun _ a1=> ?_)))))))))
 refine U (fun _ a6=>(p mv (p (bP rfl rfl) (ag ((a6 _ _ (cd rfl (fun bD=> ?_) (fun bD=> ?_))))))))
 refine U (fun _ av=>(p mv (ae (((av _ _ (rt (tr ?_))))))))
 refine br (tr (f1 rfl rfl ?_))
 have h13:=k8 (s:=r.getD 1 []) (most:=1024) (by omega)
 show dR w1 H seen _ (.int .i64 (cH (r.getD 1 []) 1024).2) aZ
 rw [h13.2]
 exact dR.er ((qE ah).trans (vZ aY h13.1)) (by decide) (j.wk aq).bK hW137
 refine au (tn (a1 _ _ (U (fun _ av=>(ab (aG H.rb) (ab (.slice q r.length A) (p mv (e (cl sB (tJ w1 H F k ln seen r am q A (cH (r.getD 1 []) 1024).1 aZ aB ⟨V,vh,hF.wk aq,j.wk aq,hB,hW137,hkl⟩ hT (.inl G) (by have :=hnle (by omega); omega) (fun _ h=>absurd ah h)) rfl fun b4 cg bm=> ?_)))))))))
 exact ae (((av _ _ (rt (br (tr (f1 rfl rfl (dR.eq bm ((qE ah).trans (CH G ah aY (j4 (by omega))))))))))))
 have bV:¬r.getD 0 []=db:=aI
 have hpf:=JQ bG bN bQ bR bS bT bU bV
 have bF:r.length=4:=by rw [hw,B6 hpf]
 refine au (bn (tn (aw _ _ (U (fun _ I=>(ab (aG H.rb) (ab (.slice q r.length A) (e (cl Ei (G7 w1 H F k ln seen r am q A Y aB hS0 hT hrl bB bF hpf) rfl fun b5 ch bo=> ?_)))))))))
 exact ae (((I _ _ (rt (f1 rfl rfl (dR.eq bo (Hv hpf)))))))
end Go.Hb.vJ
end
