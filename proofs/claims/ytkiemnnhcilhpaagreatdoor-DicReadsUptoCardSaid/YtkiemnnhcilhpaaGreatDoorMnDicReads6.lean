/-
  Walks and plain laws that the law rests on, laid together. No conditions but those that each theorem names.
-/
import Derived.Test.YtkiemnnhcilhpaaGreatDoorMnDicReads5
set_option linter.unusedVariables false
section
set_option maxRecDepth 20000
set_option maxHeartbeats 1000000
namespace Go.Hb.o6
open Go.Hb.du
open Go.Proofs
open Go.Hb.gB Go.Hb.h8 Go.Hb.lz
theorem Lr {L:List Nat} (h:¬L.length≤64) (h2:L.length≤65) {M:List Nat} (h1:L=M.take 65) (x:Nat):L=(M++ [x]).take 65:=by
 have h3:=congrArg List.length h1
 rw [List.length_take] at h3
 rw [List.take_append_of_le_length (by omega),← h1]
theorem Ls {L:List Nat} (h:L.length≤64) {M:List Nat} (h1:L=M.take 65) (x:Nat):L++ [x]=(M++ [x]).take 65:=by
 have h3:=congrArg List.length h1
 rw [List.length_take] at h3
 rw [List.take_of_length_le (by rw [List.length_append,List.length_singleton]; omega)]
 rw [List.take_of_length_le (by omega)] at h1; rw [h1]
theorem LL {l out:List Nat} {nx:Int} (h:lB l out nx) (j:nx < 65536):out.length≤65536:=by
 have h1:∀ x∈out,x < 65536:=fun x a=>by have :=((h.2 x).1 a).2; omega
 have h2:out.Nodup:=h.1.imp (fun i=>by omega)
 have h3:=List.Nodup.length_le_of_subset h2 (fun x a=>List.mem_range.2 (h1 x a))
 simpa using h3
theorem uA (b:UInt8) (w:World):
 aV Tryz.prog 140 (List.toArray [.int .u8 b.toNat]) w (fun v w'=>v= .bool (fE b)∧Wk w w'):=by
 refine enter Tryz.func140 rfl Tryz.ntmps140 rfl ?_
 refine U (fun _ i=>(aj (((i _ _ (U (fun _ a=>(ag (.int .u8 b.toNat) ?_))))))))
 refine p (ge rfl rfl) (p mv (gs (t:=5) rfl (fun hg5=> ?_) (fun hg5=> ?_)))
 refine pg rfl rfl rfl (aC (.int .u8 b.toNat) rfl) (pg rfl rfl rfl (le rfl rfl) (p (bc rfl) (p mv (gs (t:=9) rfl (fun hg9=> ?_) (fun hg9=> ?_)))))
 refine pg rfl rfl rfl (aC (.int .u8 b.toNat) rfl) (pg rfl rfl rfl (bH rfl rfl) (p (bc rfl) (p mv (gs (t:=13) rfl (fun hg13=> ?_) (fun hg13=> ?_)))))
 refine pg rfl rfl rfl (aC (.int .u8 b.toNat) rfl) (pg rfl rfl rfl (bH rfl rfl) (p (bc rfl) (p mv (gs (t:=17) rfl (fun j=> ?_) (fun j=> ?_)))))
 refine pg rfl rfl rfl (aC (.int .u8 b.toNat) rfl) (pg rfl rfl rfl (bH rfl rfl) (p (bc rfl) (aj (((a _ _ (rt (f1 rfl rfl ?_))))))))
 exact ⟨by show Value.bool (decide _)=_; rw [ky]; exact bv (by constructor <;> intro h <;> first | exact ⟨by omega,by omega,by omega,by omega,h⟩ | exact h.2.2.2.2),Md.refl _ _⟩
 refine sk rfl rfl rfl rfl (sk rfl rfl rfl rfl (p (a6 rfl) (aj (((a _ _ (rt (f1 rfl rfl ?_))))))))
 exact ⟨by show Value.bool false =_; rw [ky,decide_eq_false (by omega)],Md.refl _ _⟩
 refine sk rfl rfl rfl rfl (sk rfl rfl rfl rfl (p (a6 rfl) (p mv (sk rfl rfl rfl rfl (sk rfl rfl rfl rfl (p (a6 rfl) (p ak ?_)))))))
 exact au ((a _ _ (rt (f1 rfl rfl (⟨by show Value.bool false =_; rw [ky,decide_eq_false (by omega)],Md.refl _ _⟩)))))
 refine sk rfl rfl rfl rfl (sk rfl rfl rfl rfl (p (a6 rfl) (p mv (sk rfl rfl rfl rfl (sk rfl rfl rfl rfl (p (a6 rfl) (p mv ?_)))))))
 refine sk rfl rfl rfl rfl (sk rfl rfl rfl rfl (p (a6 rfl) (aj (((a _ _ (rt (f1 rfl rfl ?_))))))))
 exact ⟨by show Value.bool false =_; rw [ky,decide_eq_false (by omega)],Md.refl _ _⟩
 refine sk rfl rfl rfl rfl (sk rfl rfl rfl rfl (p (a6 rfl) (p mv (sk rfl rfl rfl rfl (sk rfl rfl rfl rfl (p (a6 rfl) (p mv ?_)))))))
 refine sk rfl rfl rfl rfl (sk rfl rfl rfl rfl (p (a6 rfl) (p mv (sk rfl rfl rfl rfl (sk rfl rfl rfl rfl (p (a6 rfl) (p ak ?_)))))))
 exact au ((a _ _ (rt (f1 rfl rfl (⟨by show Value.bool false =_; rw [ky,decide_eq_false (by omega)],Md.refl _ _⟩)))))
theorem BT (kind:Nat) (s:List UInt8) (w:World) (hk:kind=1∨kind=2∨kind=3) (hs:s.length≤1048576):
 aV Tryz.prog 124 (List.toArray [ae kind,str s]) w (fun v w'=>v=bA (dj kind s)∧Wk w w'):=by
 refine enter Tryz.func124 rfl Tryz.ntmps124 rfl ?_
 refine U (fun _ Z=>(aj (((Z _ _ (sq (fun _ ab=>U (fun _ ac=> ?_))))))))
 refine ag (ae kind) (au ((ac _ _ (aA (U (fun _ ah=>(p (bd rfl rfl) (p ak ?_))))))))
 refine au ((ah _ _ (cd rfl (fun hc10=> ?_) (fun hc10=> ?_))))
 refine sq (fun _ J=>U (fun _ j=>(ag (str s) (p (bK u9 rfl rfl) (p (bH rfl rfl) (p mv (gs (t:=15) rfl (fun aq=> ?_) (fun aq=> ?_))))))))
 refine sk rfl rfl rfl rfl (sk rfl rfl rfl rfl (sk rfl rfl rfl rfl (sk rfl rfl rfl rfl (p (bc rfl) (au ((j _ _ (ct rfl ?_))))))))
 refine U (fun _ i=>(aj (((i _ _ (rt (tr (br ?_))))))))
 exact tr (f1 rfl rfl (⟨by rw [nd (by omega) (fun h=>by omega) (fun h=>by omega)]; rfl,Md.refl _ _⟩))
 refine pg rfl rfl rfl (aC (str s) rfl) (pg rfl rfl rfl (fz 0 u9 rfl rfl (by omega)) (eg rfl rfl rfl (cl rX (uA (s.getD 0 0) _) rfl fun ar w18 ai=> ?_)))
 obtain ⟨rfl,V⟩:=ai
 refine pg rfl rfl rfl (no rfl) (p (a6 rfl) (au ((j _ _ (cb rfl (fun E=> ?_) (fun E=> ?_))))))
 refine U (fun _ i=>(aj (((i _ _ (rt (tr (br ?_))))))))
 exact tr (f1 rfl rfl (⟨by rw [nd (by omega) (fun h=>by rw [h.2.2] at E; cases E) (fun h=>by omega)]; rfl,V⟩))
 refine az (tn (J _ _ (U (fun _ i=>(ag (str s) (p (fz 0 u9 rfl rfl (by omega)) (p (ij u3 ll rfl (bu (by have :=UInt8.toNat_lt (s.getD 0 0); omega))) (p ak ?_))))))))
 exact au ((i _ _ (rt (br (tr (f1 rfl rfl (⟨by rw [yK ⟨by omega,by omega,by simpa using E⟩]; rfl,V⟩)))))))
 refine U (fun _ J=>(p (bd rfl rfl) (aj (((J _ _ (cd rfl (fun ao=> ?_) (fun ao=> ?_))))))))
 refine sq (fun _ j=>U (fun _ i=>(ag (str s) (p (bK u9 rfl rfl) (p (bH rfl rfl) (au ((i _ _ ?_))))))))
 refine cd rfl (fun ap=> ?_) (fun ap=> ?_)
 refine U (fun _ A=>(aj (((A _ _ (rt (tr (br ?_))))))))
 exact tr (f1 rfl rfl (⟨by rw [nd (by omega) (fun h=>by omega) (fun h=>by omega)]; rfl,Md.refl _ _⟩))
 refine az (tn (j _ _ (U (fun _ A=>(ag (str s) (p (fz 0 u9 rfl rfl (by omega)) (e (cl rX (uA (s.getD 0 0) _) rfl fun av w31 al=> ?_))))))))
 obtain ⟨rfl,hE31⟩:=al
 refine aj (((A _ _ (U (fun _ C=>(ag (str s) (p (fz 1 u9 rfl rfl (by omega)) (e (cl rX (uA (s.getD 1 0) _) rfl fun aw M am=> ?_)))))))))
 obtain ⟨rfl,hE34⟩:=am
 refine aj (((C _ _ (sq (fun _ aa=>U (fun _ O=>(p mv (p (no rfl) ?_))))))))
 refine p mv (gb (t:=37) rfl (fun I=> ?_) (fun I=> ?_))
 refine sk rfl rfl rfl rfl (sk rfl rfl rfl rfl (p (bc rfl) (au ((O _ _ (ct rfl (U (fun _ q=> ?_))))))))
 refine aj (((q _ _ (rt (tr (br (tr (f1 rfl rfl ?_))))))))
 exact ⟨by rw [nd (by omega) (fun h=>by omega) (fun h=>by rw [h.2.2.1] at I; cases I)]; rfl,Md.trans hE31 hE34⟩
 refine pg rfl rfl rfl mv (pg rfl rfl rfl (no rfl) (p (a6 rfl) (au ((O _ _ (cb rfl (fun G=> ?_) (fun G=> ?_)))))))
 refine U (fun _ q=>(aj (((q _ _ (rt (tr (br ?_))))))))
 exact tr (f1 rfl rfl (⟨by rw [nd (by omega) (fun h=>by omega) (fun h=>by rw [h.2.2.2] at G; cases G)]; rfl,Md.trans hE31 hE34⟩))
 refine az (tn (aa _ _ (sq (fun _ q=> ?_))))
 have g0:=UInt8.toNat_lt (s.getD 0 0)
 have g1:=UInt8.toNat_lt (s.getD 1 0)
 have a:(fun w'=>Wk M w') M.drew:=(Md.refl _ _).drew
 refine bD (fun w'=>Wk M w') rfl wide a (bl 0 rfl (str s) a (aB 1 rfl (fun _ _=>fz 0 u9 rfl rfl (by omega)) a (aB 2 rfl (fun _ _=>ij u3 ll rfl (bu (by have :=UInt8.toNat_lt (s.getD 0 0); omega))) a (aB 3 rfl (fun _ _=>ks ((256 *(s.getD 0 0).toNat:Nat):Int) rfl rfl (aQ (by omega) (by omega))) a (bl 4 rfl (str s) a (aB 5 rfl (fun _ _=>fz 1 u9 rfl rfl (by omega)) a (aB 6 rfl (fun _ _=>ij u3 ll rfl (bu (by have :=UInt8.toNat_lt (s.getD 1 0); omega))) a ?_)))))))
 refine aB 7 rfl (fun _ _=>ba ((256 *(s.getD 0 0).toNat+(s.getD 1 0).toNat:Nat):Int) rfl rfl (aQ (by omega) (by omega))) a (aB 8 rfl (fun _ _=>ak) a (hn (by kernel_rfl) (tn (q _ _ (rt (br (tr (f1 rfl rfl ?_))))))))
 exact ⟨by rw [yL ⟨by omega,by omega,by simpa using I,by simpa using G⟩]; rfl,(Md.trans hE31 hE34).drew⟩
 refine az (bn (tn (ab _ _ (U (fun _ j=>(ag (str s) (e (cl mu (mK s 65535 _ hs (by decide)) rfl fun ax w51 an=> ?_))))))))
 obtain ⟨rfl,hE51⟩:=an
 have hn5:=Ah s
 refine p mv (p (xt rfl rfl) (p (xt rfl rfl) (p ak (aj (((j _ _ (sq (fun _ i=> ?_)))))))))
 refine U (fun _ A=>(p mv (p (bH rfl rfl) (au ((A _ _ (cd rfl (fun Y=> ?_) (fun Y=> ?_))))))))
 refine U (fun _ C=>(aj (((C _ _ (rt (tr (f1 rfl rfl ?_))))))))
 exact ⟨by rw [sT (by omega)]; unfold bA; exact iv (by have h1:=Y; unfold cH at*; split <;> first | rfl | (rename_i h2; rw [if_neg h2] at h1; exact absurd rfl h1)),hE51⟩
 refine az (tn (i _ _ (U (fun _ C=>(p mv (aj (((C _ _ ?_)))))))))
 exact rt (f1 rfl rfl (⟨by rw [sT (by omega)]; rfl,hE51⟩))
theorem Kk (kind:Nat) (s:List UInt8) (w:World) (hk:kind=1∨kind=2∨kind=3) (hs:s.length≤1048576):
 aV Tryz.prog 106 (List.toArray [ae kind,str s]) w (fun v w'=>v= .tuple #[bA (eD kind s).1,ae ((eD kind s).2)]∧Wk w w'):=by
 refine enter Tryz.func106 rfl Tryz.ntmps106 rfl ?_
 refine U (fun _ j=>(p ak (aj (((j _ _ (sq (fun _ q=>sq (fun _ A=> ?_)))))))))
 refine rg rfl (ag (ae kind) (p (lt rfl rfl) (p mv (gs (t:=9) rfl (fun h=>absurd h (by omega)) (fun hg9=> ?_)))))
 refine pg rfl rfl rfl (aC (ae kind) rfl) (pg rfl rfl rfl (gt rfl rfl) (p (a6 rfl) (au ((A _ _ (cd rfl (fun h=>absurd h (by omega)) (fun J=> ?_)))))))
 refine az (tn (q _ _ (U (fun _ C=>(ag (ae kind) (ag (str s) (e (cl wO (BT kind s _ hk hs) rfl fun M w15 hR15=> ?_))))))))
 obtain ⟨rfl,i⟩:=hR15
 refine aj (((C _ _ (sq (fun _ E=>U (fun _ G=>(p mv (p (bd rfl rfl) ?_))))))))
 refine au ((G _ _ (cd rfl (fun I=> ?_) (fun I=> ?_))))
 refine U (fun _ a=>(p ak (aj (((a _ _ (rt (tr ?_))))))))
 exact f2 rfl rfl rfl (⟨by unfold eD; rw [if_pos (show dj kind s=0 by omega)]; rfl,i⟩)
 refine az (tn (E _ _ (U (fun _ a=>(p mv (p ak (p ak (nl ?_))))))))
 exact tn (a _ _ (rt (f2 rfl rfl rfl (⟨by unfold eD; rw [if_neg (show ¬dj kind s=0 by omega)]; rfl,i⟩))))
theorem JA (kind:Nat) (s:List UInt8) (w:World) (hk:kind=1∨kind=2∨kind=3) (hs:s.length≤1048576):
 aV Tryz.prog 127 (List.toArray [ae kind,str s]) w (fun v w'=>World.ownsRow w' w.heap.size 9 1 (v) ((cg kind s)).length (((cg kind s)).map str)∧Wk w w'):=by
 refine enter Tryz.func127 rfl Tryz.ntmps127 rfl ?_
 refine U (fun _ ax=>(aj (((ax _ _ (U (fun _ ay=>(p ak ?_))))))))
 refine au ((ay _ _ (sq (fun _ aB=>U (fun _ aD=>(ag (ae kind) (p (bd rfl rfl) (nl ?_))))))))
 refine tn (aD _ _ (cd rfl (fun aK=> ?_) (fun aK=> ?_)))
 refine U (fun _ ab=>(aj (((ab _ _ (sq (fun _ ac=>U (fun _ ah=> ?_))))))))
 refine aj (((ah _ _ (aA (lp (fun O I wI=> ∃ (i q:Nat) (dn:List (List UInt8)) (a:Value),((i≤s.length∧q≤i∧dn.length≤i∧dn++dR 44 ((s.take i).drop q) (s.drop i)=dR 44 [] s)∨(i=s.length+1∧dn=dR 44 [] s))∧(World.ownsRow wI w.heap.size 9 1 (a) (dn).length ((dn).map str))∧(Wk w wI)∧(I 0=ae kind)∧(I 1=str s)∧(I 5=a)∧(I 6=ae q)∧(I 7=ae i)∧(s.length+1 - i=O)) _ ⟨0,0,[],.slice none 0 0,(.inl ⟨by omega,by omega,by simp,rfl⟩),(World.ownsRow_nil _ _ _ _),(Md.refl _ _),rfl,rfl,rfl,rfl,rfl,rfl⟩ ?_)))))
 rintro O I wI ⟨i,q,dn,a,hi,A,E,aS,aT,aU,aW,aX,rfl⟩
 refine fx 0 aS (fx 1 aT (fx 5 aU (fx 6 aW (fx 7 aX (sq (fun _ ai=>U (fun _ M=>(ag (ae i) (ag (str s) (p (bK u9 rfl rfl) (p (le rfl rfl) ?_)))))))))))
 refine au ((M _ _ (cd rfl (fun hc15=> ?_) (fun hc15=> ?_))))
 refine az (tn (ai _ _ (sq (fun _ C=>aA (sq (fun _ Z=> ?_))))))
 obtain ⟨bi,bk,bj,hd⟩:=hi.resolve_right (fun h=>by omega)
 refine rg rfl (ag (ae i) (ag (str s) (p (bK u9 rfl rfl) (p (bd rfl rfl) (p mv (gs (t:=22) rfl (fun aO=> ?_) (fun aO=> ?_)))))))
 have bD:dn++ [(s.take i).drop q]=dR 44 [] s:=by rw [← hd,List.drop_eq_nil_of_le (show s.length≤i by omega),dR]
 refine sk rfl rfl rfl rfl (sk rfl rfl rfl rfl (sk rfl rfl rfl rfl (sk rfl rfl rfl rfl (p (bc rfl) (au ((Z _ _ (ct rfl ?_))))))))
 refine U (fun _ aa=>(ag (a) (ag (str s) (ag (ae q) (ag (ae i) (p (iP u9 rfl rfl rfl (by omega)) (e (ef dV rfl rfl fun aE w33 aJ G al=> ?_))))))))
 have V:Wk w w33:=Md.trans E G.md
 refine e (ap dV (aG A G.md) rfl (by have :=V.size; omega) rfl (aw.cV al) (rfl) (rfl) (by omega) (by omega) fun ar a9 aq am hz34 aN=> ?_)
 have hE34:=Wk.own V (aG A G.md) am (Nat.le_refl _)
 have ho34x:=jh aq
 refine aj (((aa _ _ (rg rfl (ag (ae i) (p (ba ((i+1:Nat):Int) rfl rfl (aQ (by omega) (by omega))) (p ak (nl ?_))))))))
 refine bn (tn (C _ _ (rg rfl (ag (ae i) (p (ba ((i+1:Nat):Int) rfl rfl (aQ (by omega) (by omega))) (p ak (nl (tn ?_))))))))
 exact ⟨_,by omega,i+1,i+1,dn++ [(s.take i).drop q],ar,(.inr ⟨by omega,bD⟩),ho34x,hE34,rfl,rfl,rfl,rfl,rfl,rfl⟩
 refine pg rfl rfl rfl (aC (str s) rfl) (pg rfl rfl rfl (aC (ae i) rfl) (pg rfl rfl rfl (dB u9 rfl rfl (by omega)) (pg rfl rfl rfl (bd rfl rfl) (p (a6 rfl) (au ((Z _ _ (cd rfl (fun ao=> ?_) (fun ao=> ?_)))))))))
 have bD:dn++ [(s.take i).drop q]++dR 44 [] (s.drop (i+1))=dR 44 [] s:=by rw [← hd,drop_cons 0 (show i < s.length by omega),dR,if_pos (UInt8.toNat_inj.1 (by have bf:(44:UInt8).toNat=44:=rfl; omega)),List.append_assoc]; rfl
 refine U (fun _ aa=>(ag (a) (ag (str s) (ag (ae q) (ag (ae i) (p (iP u9 rfl rfl rfl (by omega)) (e (ef dV rfl rfl fun aE w33 aJ G al=> ?_))))))))
 have V:Wk w w33:=Md.trans E G.md
 refine e (ap dV (aG A G.md) rfl (by have :=V.size; omega) rfl (aw.cV al) (rfl) (rfl) (by omega) (by omega) fun ar a9 aq am hz34 aN=> ?_)
 have hE34:=Wk.own V (aG A G.md) am (Nat.le_refl _)
 have ho34x:=jh aq
 refine aj (((aa _ _ (rg rfl (ag (ae i) (p (ba ((i+1:Nat):Int) rfl rfl (aQ (by omega) (by omega))) (p ak (nl ?_))))))))
 refine bn (tn (C _ _ (rg rfl (ag (ae i) (p (ba ((i+1:Nat):Int) rfl rfl (aQ (by omega) (by omega))) (p ak (nl (tn ?_))))))))
 exact ⟨_,by omega,i+1,i+1,dn++ [(s.take i).drop q],ar,(.inl ⟨by omega,by omega,(by rw [List.length_append,List.length_singleton]; omega),(by rw [show (s.take (i+1)).drop (i+1)= [] from List.drop_eq_nil_of_le (by rw [List.length_take]; omega)]; exact bD)⟩),ho34x,hE34,rfl,rfl,rfl,rfl,rfl,rfl⟩
 have bD:dn++dR 44 ((s.take (i+1)).drop q) (s.drop (i+1))=dR 44 [] s:=by rw [← hd,drop_cons 0 (show i < s.length by omega),dR,if_neg (fun h=>by rw [h] at ao; exact ao rfl),← oN 0 (by omega) (by omega)]
 refine az (bn (tn (C _ _ (rg rfl (ag (ae i) (p (ba ((i+1:Nat):Int) rfl rfl (aQ (by omega) (by omega))) (p ak (nl ?_))))))))
 exact tn (⟨_,by omega,i+1,q,dn,a,(.inl ⟨by omega,by omega,by omega,bD⟩),A,E,rfl,rfl,rfl,rfl,rfl,rfl⟩)
 refine ext (te _ (te _ (be (tn (ac _ _ (U (fun _ C=>(ag (a) ?_))))))))
 refine p (bJ (a) rfl) (au ((C _ _ (rt (tr (f1 rfl rfl ?_))))))
 have hd2:dn=cg kind s:=by unfold cg; rw [if_pos (by omega)]; rcases hi with h | h <;> first | omega | exact h.2
 exact ⟨by rw [← hd2]; exact A,E⟩
 refine az (tn (aB _ _ (sq (fun _ ab=>U (fun _ ac=>(aj (((ac _ _ ?_)))))))))
 refine aA (lp (fun O Y wI=> ∃ (i:Nat) (dn:List (List UInt8)) (a:Value),(i≤s.length+kind∧dn.length≤i)∧(dn++chunks kind (s.drop i)=chunks kind s)∧(World.ownsRow wI w.heap.size 9 1 (a) (dn).length ((dn).map str))∧(Wk w wI)∧(Y 0=ae kind)∧(Y 1=str s)∧(Y 5=a)∧(Y 8=ae i)∧(s.length - i=O)) _ ⟨0,[],.slice none 0 0,((by simp)),rfl,(World.ownsRow_nil _ _ _ _),(Md.refl _ _),rfl,rfl,rfl,rfl,rfl⟩ ?_)
 rintro O Y wI ⟨i,dn,a,hi,hd,A,E,aY,aZ,a0,a1,rfl⟩
 refine fx 0 aY (fx 1 aZ (fx 5 a0 (fx 8 a1 (sq (fun _ ah=>U (fun _ ai=>(ag (ae i) (ag (str s) (p (bK u9 rfl rfl) (p (lt rfl rfl) ?_))))))))))
 refine au ((ai _ _ (cd rfl (fun aL=> ?_) (fun aL=> ?_))))
 have hne:s.drop i≠[]:=fun h=>by have :=congrArg List.length h; rw [List.length_drop,List.length_nil] at this; omega
 refine az (tn (ah _ _ (sq (fun _ M=>aA (U (fun _ C=>(ag (ae i) (ag (ae kind) ?_))))))))
 refine p (ba ((i+kind:Nat):Int) rfl rfl (aQ (by omega) (by omega))) (aj (((C _ _ ?_))))
 refine c6 (fun J wC=> ∃ (j:Nat),(i≤j∧j≤s.length∧(s.take j).drop i=(s.drop i).take kind)∧(wC=wI)∧(J 0=ae kind)∧(J 1=str s)∧(J 5=a)∧(J 8=ae i)∧(J 9=ae j)) ?_ ?_
 refine U (fun _ Z=>(p mv (ag (str s) (p (bK u9 rfl rfl) (p (gt rfl rfl) (au ((Z _ _ ?_))))))))
 refine cd rfl (fun aM=> ?_) (fun aM=> ?_)
 exact rg rfl (ag (str s) (p (bK u9 rfl rfl) (aj (((⟨s.length,((by refine ⟨by omega,by omega,?_⟩; rw [List.take_length,List.take_of_length_le (by rw [List.length_drop]; omega)])),rfl,rfl,rfl,rfl,rfl,rfl⟩))))))
 exact az (tn (⟨i+kind,((by refine ⟨by omega,by omega,?_⟩; rw [List.drop_take,Nat.add_sub_cancel_left])),rfl,rfl,rfl,rfl,rfl,rfl⟩))
 rintro J wC ⟨j,aP,aH,a2,a3,a4,a5,a7⟩
 refine fx 0 a2 (fx 1 a3 (fx 5 a4 (fx 8 a5 (fx 9 a7 ?_))))
 subst aH
 refine rg rfl (ag (a) (ag (str s) (ag (ae i) (ag (ae j) (p (iP u9 rfl rfl rfl (by omega)) (e (ef dV rfl rfl fun bb w59 bg an aF=> ?_)))))))
 have av:Wk w w59:=Md.trans E an.md
 refine e (ap dV (aG A an.md) rfl (by have :=av.size; omega) rfl (aw.cV aF) (rfl) (rfl) (by omega) (by omega) fun a8 w60 aR aI hz60 bh=> ?_)
 have hE60:=Wk.own av (aG A an.md) aI (Nat.le_refl _)
 have ho60x:=jh aR
 refine p ak (nl (bn (tn (M _ _ (rg rfl (ag (ae i) (ag (ae kind) (p (ba ((i+kind:Nat):Int) rfl rfl (aQ (by omega) (by omega))) ?_))))))))
 exact aj (((⟨_,by omega,i+kind,dn++ [(s.drop i).take kind],a8,((by rw [List.length_append,List.length_singleton]; omega)),((by rw [← hd,pL (k:=kind) (by omega) hne,List.append_assoc,List.drop_drop]; rfl)),((by rw [← aP.2.2]; exact ho60x)),hE60,rfl,rfl,rfl,rfl,rfl⟩)))
 refine ext (te _ (te _ (be (tn (ab _ _ (U (fun _ M=>(ag (a) ?_))))))))
 refine p (bJ (a) rfl) (au ((M _ _ (rt (f1 rfl rfl ?_)))))
 have hd2:dn=cg kind s:=by unfold cg; rw [if_neg (by omega),← hd,List.drop_eq_nil_of_le (by omega),pM,List.append_nil]
 exact ⟨by rw [← hd2]; exact A,E⟩
theorem Kj (l:List Nat) (a:Option Addr) (c:Nat) (w:World) (hC:aw w.heap a (l.map bA)) (hl:l.length≤1048576) (hlt:∀ x∈l,x < 65536):
 aV Tryz.prog 128 (List.toArray [.slice a l.length c]) w (fun v w'=>World.ownsRow w' w.heap.size 3 1 (v) ((gx l)).length (((gx l)).map bA)∧Wk w w'):=by
 refine enter Tryz.func128 rfl Tryz.ntmps128 rfl ?_
 refine U (fun _ ac=>(aj (((ac _ _ (U (fun _ ah=>(p ak ?_))))))))
 refine au ((ah _ _ (U (fun _ ai=>(aj (((ai _ _ (aA ?_)))))))))
 refine lp (fun G I wI=> ∃ (out:List Nat) (last:Int) (s:Value),(-1≤last∧last < 65536)∧(lB l out last)∧(World.ownsRow wI w.heap.size 3 1 (s) (out).length ((out).map bA))∧(Wk w wI)∧(out.length≤65536)∧(I 0= .slice a l.length c)∧(I 3=s)∧(I 4= .int .i64 last)∧((65536 - last).toNat=G)) _ ⟨[],-1,.slice none 0 0,((by decide)),(lB.nil l),(World.ownsRow_nil _ _ _ _),(Md.refl _ _),(Nat.zero_le _),rfl,rfl,rfl,rfl⟩ ?_
 rintro G I wI ⟨out,last,s,aW,ab,V,av,aY,aH,aI,aK,rfl⟩
 refine fx 0 aH (fx 3 aI (fx 4 aK (aA (U (fun _ al=>(aj (((al _ _ (sq (fun _ am=> ?_)))))))))))
 refine U (fun _ an=>(aj (((an _ _ (aA (lp (fun G C Y=> ∃ (i:Nat) (nx:Int),(i≤l.length∧ -1≤nx)∧(gW l last i nx)∧(Wk w Y)∧(Wk wI Y)∧(C 0= .slice a l.length c)∧(C 3=s)∧(C 4= .int .i64 last)∧(C 5= .int .i64 nx)∧(C 6=ae i)∧(l.length - i=G)) _ ⟨0,-1,((by omega)),(gW.nil l last),av,(Md.refl _ _),rfl,rfl,rfl,rfl,rfl,rfl⟩ ?_)))))))
 rintro G C Y ⟨i,nx,hi,hnx,j,q,aL,aM,aN,aO,aP,rfl⟩
 refine fx 0 aL (fx 3 aM (fx 4 aN (fx 5 aO (fx 6 aP (sq (fun _ ao=>U (fun _ aq=>(ag (ae i) (ag (.slice a l.length c) (p (bg u64 rfl rfl) (p (lt rfl rfl) ?_)))))))))))
 refine au ((aq _ _ (cd rfl (fun hc10=> ?_) (fun hc10=> ?_))))
 refine az (tn (ao _ _ (sq (fun _ A=>aA (U (fun _ E=>(ag (.slice a l.length c) (ag (ae i) ?_))))))))
 refine p (aJ lO rfl rfl (by omega) (aw.ok (hC.wk j) (bo (by omega)))) (p (ld bU rfl (qB (f:=bA) (i:=i) 0 (hC.wk j) (by omega))) (ag (.int .i64 last) (p (gt rfl rfl) (p mv (gs (t:=19) rfl (fun aB=> ?_) (fun aB=> ?_))))))
 refine pg rfl rfl rfl (aC (.int .i64 nx) rfl) (pg rfl rfl rfl (lt rfl rfl) (pg rfl rfl rfl mv (gs (t:=22) rfl (fun aD=> ?_) (fun aD=> ?_))))
 refine sk rfl rfl rfl rfl (sk rfl rfl rfl rfl (sk rfl rfl rfl rfl (sk rfl rfl rfl rfl (sk rfl rfl rfl rfl (sk rfl rfl rfl rfl (pg rfl rfl rfl (bc rfl) (p (bc rfl) ?_)))))))
 refine au ((E _ _ (ct rfl (rg rfl (ag (.slice a l.length c) (ag (ae i) (p (aJ lO rfl rfl (by omega) (aw.ok (hC.wk j) (bo (by omega)))) (p (ld bU rfl (qB (f:=bA) (i:=i) 0 (hC.wk j) (by omega))) ?_))))))))
 refine p ak (nl (bn (tn (A _ _ (rg rfl (ag (ae i) (p (ba ((i+1:Nat):Int) rfl rfl (aQ (by omega) (by omega))) (p ak ?_))))))))
 exact au ((⟨_,by omega,i+1,((l.getD i 0:Nat):Int),((by omega)),(hnx.take (by omega) (by omega) (.inl (by omega))),j,q,rfl,rfl,rfl,rfl,rfl,rfl⟩))
 refine pg rfl rfl rfl (aC (.slice a l.length c) rfl) (pg rfl rfl rfl (aC (ae i) rfl) (pg rfl rfl rfl (aJ lO rfl rfl (by omega) (aw.ok (hC.wk j) (bo (by omega)))) (pg rfl rfl rfl (ld bU rfl (qB (f:=bA) (i:=i) 0 (hC.wk j) (by omega))) (pg rfl rfl rfl (aC (.int .i64 nx) rfl) (pg rfl rfl rfl (lt rfl rfl) (pg rfl rfl rfl (a6 rfl) (p (bc rfl) ?_)))))))
 refine au ((E _ _ (cd rfl (fun ay=> ?_) (fun ay=> ?_))))
 refine rg rfl (ag (.slice a l.length c) (ag (ae i) (p (aJ lO rfl rfl (by omega) (aw.ok (hC.wk j) (bo (by omega)))) (p (ld bU rfl (qB (f:=bA) (i:=i) 0 (hC.wk j) (by omega))) (p ak (nl (bn ?_)))))))
 exact tn (A _ _ (rg rfl (ag (ae i) (p (ba ((i+1:Nat):Int) rfl rfl (aQ (by omega) (by omega))) (aj (((⟨_,by omega,i+1,((l.getD i 0:Nat):Int),((by omega)),(hnx.take (by omega) (by omega) (.inr (by omega))),j,q,rfl,rfl,rfl,rfl,rfl,rfl⟩))))))))
 refine az (bn (tn (A _ _ (rg rfl (ag (ae i) (p (ba ((i+1:Nat):Int) rfl rfl (aQ (by omega) (by omega))) (p ak (nl ?_))))))))
 exact tn (⟨_,by omega,i+1,nx,((by omega)),(hnx.skip (.inr ⟨by omega,by omega⟩)),j,q,rfl,rfl,rfl,rfl,rfl,rfl⟩)
 refine sk rfl rfl rfl rfl (sk rfl rfl rfl rfl (sk rfl rfl rfl rfl (et rfl rfl rfl (et rfl rfl rfl (et rfl rfl rfl (et rfl rfl rfl (et rfl rfl rfl ?_)))))))
 refine et rfl rfl rfl (sk rfl rfl rfl rfl (p (a6 rfl) (au ((E _ _ (cf rfl (az (bn ?_))))))))
 exact tn (A _ _ (rg rfl (ag (ae i) (p (ba ((i+1:Nat):Int) rfl rfl (aQ (by omega) (by omega))) (aj (((⟨_,by omega,i+1,nx,((by omega)),(hnx.skip (.inl (by omega))),j,q,rfl,rfl,rfl,rfl,rfl,rfl⟩))))))))
 refine ext (te _ (te _ (be (tn (am _ _ (sq (fun _ A=>U (fun _ E=> ?_))))))))
 refine ag (.int .i64 nx) (p (lt rfl rfl) (au ((E _ _ (cd rfl (fun O=> ?_) (fun O=> ?_))))))
 refine U (fun _ J=>(ag (s) (p (bJ (s) rfl) (au ((J _ _ (rt (tr ?_))))))))
 refine br (tr (br (f1 rfl rfl ?_)))
 have hz:=gW.done (by rw [show i=l.length by omega] at hnx; exact hnx) ab O
 exact ⟨by rw [← hz]; exact aG V q,j⟩
 obtain ⟨m,hm,aE,aX,aa⟩:=gW.more (by rw [show i=l.length by omega] at hnx; exact hnx) ab O
 have hm4:=hlt m hm
 refine az (tn (A _ _ (U (fun _ J=>(ag (s) (ag (.int .i64 nx) (e (ef l6 rfl rfl fun aS w40 aT M ar=> ?_))))))))
 have Z:Wk w w40:=Md.trans j M.md
 refine e (ap l6 (aG (aG V q) M.md) rfl (by have :=Z.size; omega) rfl (aw.cV ar) (rfl) (rfl) (by omega) (by omega) fun aR w41 aF ax aZ aU=> ?_)
 have hE41:=Wk.own Z (aG (aG V q) M.md) ax (Nat.le_refl _)
 refine aj (((J _ _ (rg rfl (ag (.int .i64 nx) (p (bJ (.int .i64 nx) rfl) (nl (bn ?_))))))))
 exact tn (⟨_,by omega,out++ [m],nx,aR,((by omega)),aa,((by rw [List.length_append,List.map_append]; subst aE; exact aF)),hE41,((LL aa (by omega))),rfl,rfl,rfl,rfl⟩)
theorem AR (kind:Nat) (s:List UInt8) (w:World) (hk:kind=1∨kind=2∨kind=3) (hs:s.length≤1048576):
 aV Tryz.prog 109 (List.toArray [ae kind,str s]) w (fun v w'=>(∃ a,v= .tuple #[a,ae ((cU kind s).2)]∧World.ownsRow w' w.heap.size 3 1 (a) ((cU kind s).1).length (((cU kind s).1).map bA))∧Wk w w'):=by
 refine enter Tryz.func109 rfl Tryz.ntmps109 rfl ?_
 refine U (fun _ aq=>(p ak (aj (((aq _ _ (sq (fun _ ay=>sq (fun _ aB=> ?_)))))))))
 refine rg rfl (ag (ae kind) (p (lt rfl rfl) (p mv (gs (t:=12) rfl (fun h=>absurd h (by omega)) (fun hg12=> ?_)))))
 refine pg rfl rfl rfl (aC (ae kind) rfl) (pg rfl rfl rfl (gt rfl rfl) (p (a6 rfl) (au ((aB _ _ (cd rfl (fun h=>absurd h (by omega)) (fun hc15=> ?_)))))))
 refine az (tn (ay _ _ (sq (fun _ aD=>U (fun _ aE=>(ag (str s) (p (bK u9 rfl rfl) (p (bd rfl rfl) ?_))))))))
 refine au ((aE _ _ (cd rfl (fun hc18=> ?_) (fun hc18=> ?_))))
 refine U (fun _ ac=>(p ak (aj (((ac _ _ (rt (tr ?_))))))))
 refine f2 rfl rfl rfl ?_
 have hs0:s= []:=List.eq_nil_of_length_eq_zero (by omega)
 exact ⟨⟨.slice none 0 0,by unfold cU; rw [if_pos hs0]; rfl,by unfold cU; rw [if_pos hs0]; exact World.ownsRow_nil _ _ _ _⟩,Md.refl _ _⟩
 refine az (tn (aD _ _ (U (fun _ ac=>(aj (((ac _ _ (sq (fun _ aF=> ?_))))))))))
 refine rg rfl (ag (ae kind) (ag (str s) (e (cl De (JA kind s _ hk hs) rfl fun a9 w21 aN=> ?_))))
 obtain ⟨am,hE21⟩:=aN
 obtain ⟨V,Y,rfl⟩:=b0 am
 have hS21:=(aM am).2
 have hpl:=AB (kind:=kind) (s:=s) (by omega)
 refine aj (((aF _ _ (sq (fun _ aH=>U (fun _ aI=>(p ak (nl ?_))))))))
 refine tn (aI _ _ (aA (lp (fun al I wI=> ∃ (i:Nat) (j:List Nat) (ah:Value),(i≤(cg kind s).length∧j.length≤65)∧(¬∃ x∈(cg kind s).take i,dj kind x=0)∧(j=(((cg kind s).take i).map (dj kind)).take 65)∧(World.ownsRow wI w21.heap.size 3 1 (ah) (j).length ((j).map bA))∧(Wk w21 wI)∧(I 0=ae kind)∧(I 1=str s)∧(I 6=ah)∧(I 7= .slice V (cg kind s).length Y)∧(I 8=ae i)∧((cg kind s).length - i=al)) _ ⟨0,[],.slice none 0 0,((by simp)),((by rintro ⟨x,Z,_⟩; simp at Z)),rfl,(World.ownsRow_nil _ _ _ _),(Md.refl _ _),rfl,rfl,rfl,rfl,rfl,rfl⟩ ?_)))
 rintro al I wI ⟨i,j,ah,hi,hne,M,G,q,aY,aZ,a0,a1,a2,rfl⟩
 refine fx 0 aY (fx 1 aZ (fx 6 a0 (fx 7 a1 (fx 8 a2 (sq (fun _ ar=>U (fun _ av=>(ag (ae i) (ag (.slice V (cg kind s).length Y) (p (bg dy rfl rfl) (p (lt rfl rfl) ?_)))))))))))
 refine au ((av _ _ (cd rfl (fun aR=> ?_) (fun aR=> ?_))))
 refine az (tn (ar _ _ (sq (fun _ O=>aA (sq (fun _ aa=> ?_))))))
 obtain ⟨A,C,rfl⟩:=b0 G
 refine rg rfl (ag (ae kind) (ag (.slice V (cg kind s).length Y) (ag (ae i) (p (aJ bC rfl rfl (by omega) (aw.ok (hS21.wk q) (bo (by omega)))) (p (ld bz rfl (bp.get (i:=i) (hS21.wk q) (by omega))) (e (cl wO (BT kind ((cg kind s).getD i []) _ hk (by have :=AD (kind:=kind) (by omega) (qq (d:= []) (show i < (cg kind s).length by omega)); omega)) rfl fun bb w33 aO=> ?_)))))))
 obtain ⟨rfl,E⟩:=aO
 refine aj (((aa _ _ (sq (fun _ J=>U (fun _ ax=>(p mv (p (bd rfl rfl) ?_))))))))
 refine au ((ax _ _ (cd rfl (fun aS=> ?_) (fun aS=> ?_))))
 refine U (fun _ ab=>(p ak (aj (((ab _ _ (rt (tr ?_))))))))
 refine br (tr (tr (br (tr (f2 rfl rfl rfl ?_)))))
 have hz:cU kind s=([],31):=by unfold cU; rw [if_neg (fun h=>by rw [h] at hc18; exact hc18 rfl),if_pos ⟨_,qq (d:= []) (show i < (cg kind s).length by omega),by omega⟩]
 exact ⟨⟨.slice none 0 0,by rw [hz]; rfl,by rw [hz]; exact World.ownsRow_nil _ _ _ _⟩,Md.trans hE21 (Md.trans q E)⟩
 refine az (tn (J _ _ (U (fun _ ab=>(ag (.slice A j.length C) (p (bg u64 rfl rfl) (p (le rfl rfl) (nl ?_))))))))
 refine tn (ab _ _ (cd rfl (fun aT=> ?_) (fun aT=> ?_)))
 refine rg rfl (ag (.slice A j.length C) (p mv (e (ef l6 rfl rfl fun a5 w41 hb41 ai aK=> ?_))))
 have hE41:Wk w21 w41:=Md.trans (Md.trans q E) ai.md
 refine e (ap l6 (aG (aG G E) ai.md) rfl (by have :=hE41.size; omega) rfl (aw.cV aK) (rfl) (rfl) (by omega) (by omega) fun ao w42 aW aL a8 a7=> ?_)
 have hE42:=Wk.own hE41 (aG (aG G E) ai.md) aL (Nat.le_refl _)
 have aX:World.ownsRow w42 w21.heap.size 3 1 (ao) ((j++ [dj kind ((cg kind s).getD i [])])).length (((j++ [dj kind ((cg kind s).getD i [])])).map bA):=by
  rw [List.length_append,List.map_append]; exact aW
 refine p ak (nl (bn (tn (O _ _ (rg rfl (ag (ae i) (p (ba ((i+1:Nat):Int) rfl rfl (aQ (by omega) (by omega))) (p ak ?_))))))))
 exact au ((⟨_,by omega,i+1,j++ [dj kind ((cg kind s).getD i [])],ao,((by rw [List.length_append,List.length_singleton]; omega)),(sO (by omega) hne (by omega)),((by rw [eo _ i [] (by omega),List.map_append]; exact Ls (by omega) M _)),aX,hE42,rfl,rfl,rfl,rfl,rfl,rfl⟩))
 refine az (bn (tn (O _ _ (rg rfl (ag (ae i) (p (ba ((i+1:Nat):Int) rfl rfl (aQ (by omega) (by omega))) (p ak (nl ?_))))))))
 exact tn (⟨_,by omega,i+1,j,.slice A j.length C,(by omega),(sO (by omega) hne (by omega)),((by rw [eo _ i [] (by omega),List.map_append]; exact Lr (by omega) (by omega) M _)),(aG G E),(Md.trans q E),rfl,rfl,rfl,rfl,rfl,rfl⟩)
 refine ext (te _ (te _ (be (tn (aH _ _ (sq (fun _ O=>sq (fun _ aa=> ?_))))))))
 obtain ⟨A,C,rfl⟩:=b0 G
 have a3:(cg kind s).take i=(cg kind s):=List.take_of_length_le (by omega)
 rw [a3] at M hne
 refine rg rfl (ag (.slice V (cg kind s).length Y) (p (bg dy rfl rfl) (p (gt rfl rfl) (au ((aa _ _ (cd rfl (fun aU=> ?_) (fun aU=> ?_))))))))
 refine U (fun _ J=>(p ak (aj (((J _ _ (rt (tr ?_))))))))
 refine f2 rfl rfl rfl ?_
 have hz:cU kind s=([],32):=by unfold cU; rw [if_neg (fun h=>by rw [h] at hc18; exact hc18 rfl),if_neg hne,if_pos (by omega)]
 exact ⟨⟨.slice none 0 0,by rw [hz]; rfl,by rw [hz]; exact World.ownsRow_nil _ _ _ _⟩,Md.trans hE21 q⟩
 refine az (tn (O _ _ (U (fun _ J=>(ag (.slice A j.length C) (e (cl Df (Kj j A C _ (aM G).2 (by omega) (fun x Z=>by rw [M] at Z; obtain ⟨y,_,rfl⟩:=List.mem_map.1 (List.mem_of_mem_take Z); exact yJ _ _)) rfl fun a4 bc aP=> ?_)))))))
 obtain ⟨an,hE47⟩:=aP
 refine p ak (aj (((J _ _ (rt (f2 rfl rfl rfl ?_))))))
 have hz:cU kind s=(gx ((cg kind s).map (dj kind)),0):=by unfold cU; rw [if_neg (fun h=>by rw [h] at hc18; exact hc18 rfl),if_neg hne,if_neg (by omega)]
 rw [M,List.take_of_length_le (by rw [List.length_map]; omega)] at an
 exact ⟨⟨a4,by rw [hz]; rfl,by rw [hz]; exact ga an (by have :=hE21.size; have :=q.size; omega)⟩,Md.trans hE21 (Md.trans q hE47)⟩
end Go.Hb.o6
end
section
set_option maxRecDepth 20000
set_option maxHeartbeats 1000000
namespace Go.Hb.o5
open Go.Hb.du
open Go.Proofs
open Go.Hb.fP Go.Hb.kL Go.Hb.ly
theorem HR {l:List UInt8} {i:Nat} {x:UInt8} (h:i < l.length) (h1:¬x∈l.take i) (h2:¬((l.getD i 0).toNat:Int)=(x.toNat:Int)):¬x∈l.take (i+1):=by
 rw [eo l i 0 h,List.mem_append,List.mem_singleton]
 rintro (h3 | h3)
 · exact h1 h3
 · exact h2 (by rw [h3])
theorem HQ {l:List UInt8} {i:Nat} {x:UInt8} (h:i < l.length) (h2:((l.getD i 0).toNat:Int)=(x.toNat:Int)):x∈l:=by
 have e:l.getD i 0=x:=UInt8.toNat_inj.1 (by omega)
 rw [← e]; exact c5 h
def kS (s:List UInt8) (i:Nat):Int:=if dD 93 (s.drop i) < 0 then -1 else ((i+(s.drop i).idxOf 93:Nat):Int)
theorem EO {s:List UInt8} {i k:Nat} (hk:i≤k∧k < s.length) (a:∀ j,i≤j→j < k→s.getD j 0≠93) (p:s.getD k 0=93):kS s i=(k:Nat):=by
 have h:=zP (x:=93) (l:=s.drop i) (i:=k - i) (by rw [List.length_drop]; omega) (fun j q=>by rw [List.getD_eq_getElem?_getD,List.getElem?_drop,← List.getD_eq_getElem?_getD]; exact a _ (by omega) (by omega)) (by rw [List.getD_eq_getElem?_getD,List.getElem?_drop,← List.getD_eq_getElem?_getD,show i+(k - i)=k by omega]; exact p)
 have h2:=mD (c:=93) (l:=s.drop i) (by omega)
 unfold kS
 rw [if_neg (by omega)]
 omega
theorem EP {s:List UInt8} {i:Nat} (p:∀ j,i≤j→j < s.length→s.getD j 0≠93):kS s i= -1:=by
 have h:=zQ (x:=93) (l:=s.drop i) (fun j a=>by rw [List.length_drop] at a; rw [List.getD_eq_getElem?_getD,List.getElem?_drop,← List.getD_eq_getElem?_getD]; exact p _ (by omega) (by omega))
 unfold kS
 rw [if_pos (by omega)]
theorem EN {s:List UInt8} {i:Nat} (hi:i < s.length) (hb:s.getD i 0=91):(kS s i < 0↔¬(s.drop (i+1)).idxOf 93 < (s.drop (i+1)).length)∧(¬kS s i < 0→kS s i=((i+1 +(s.drop (i+1)).idxOf 93:Nat):Int)):=by
 have e:s.drop i=91::s.drop (i+1):=by rw [drop_cons 0 hi,hb]
 have a:(91::s.drop (i+1)).idxOf 93=(s.drop (i+1)).idxOf 93 +1:=by rw [List.idxOf_cons]; rfl
 unfold kS dD
 rw [e,a,List.length_cons]
 by_cases h:(s.drop (i+1)).idxOf 93 < (s.drop (i+1)).length
 · rw [if_pos (show (s.drop (i+1)).idxOf 93 +1 < (s.drop (i+1)).length+1 by omega)]
   rw [if_neg (by omega)]
   refine ⟨⟨fun h1=>by omega,fun h1=>absurd h h1⟩,fun _=>by omega⟩
 · rw [if_neg (show ¬(s.drop (i+1)).idxOf 93 +1 < (s.drop (i+1)).length+1 by omega)]
   rw [if_pos (show (-1:Int) < 0 from by decide)]
   refine ⟨⟨fun _=>h,fun _=>by decide⟩,fun h1=>absurd (by decide) h1⟩
theorem Js {w:World} {B e:Nat} {v:Value} {l:List (List UInt8)} {x:List UInt8} (h:w.ownsRow B e 1 v (l.length+1) (l.map str++ [str x])):w.ownsRow B e 1 v (l++ [x]).length ((l++ [x]).map str):=by
 rw [List.length_append,List.map_append]; exact h
theorem CW {f:UInt8→Bool} :(bytesOf (fun x=> !f x)).length=0↔(bytesOf f).length=256:=by
 have :=CX f 256
 unfold bytesOf; omega
theorem IK {h:Array Obj} {a:Option Addr} {l:List (List UInt8)} {i:Nat} (hc:aw h a (l.map str)) (hi:i < l.length):Hb.aE h (bk a) (fo a+i*1 +0)=some (str (l.getD i [])):=bp.get (i:=i) hc hi
theorem Ev {s t r:List UInt8} (h:eX s=some (t,r)):(t.length=1∨3≤t.length)∧t.length≤s.length:=by
 cases s with
 | nil=>cases h
 | cons b l=>
   simp only [eX] at h
   split at h
   · split at h
     · rename_i hc
       simp only [Option.some.injEq,Prod.mk.injEq] at h
       obtain ⟨rfl,_⟩:=h
       simp only [List.length_cons,List.length_take]
       omega
     · cases h
   · simp only [Option.some.injEq,Prod.mk.injEq] at h
     obtain ⟨rfl,_⟩:=h
     simp
theorem Fe:∀ (f:Nat) (s:List UInt8) (xs:List (List UInt8)),iH f s=some xs→∀ t∈xs,(t.length=1∨3≤t.length)∧t.length≤s.length:=by
 intro f
 induction f with
 | zero=>intro s xs h t a; simp only [iH] at h; split at h <;> first | (cases h; cases a) | cases h
 | succ f ih=>
   intro s xs h t a
   simp only [iH] at h
   split at h
   · cases h; cases a
   · cases hc:eX s with
     | none=>rw [hc] at h; cases h
     | some q=>
       obtain ⟨u,r⟩:=q
       rw [hc] at h
       simp only at h
       cases hr:iH f r with
       | none=>rw [hr] at h; cases h
       | some i=>
         rw [hr] at h
         cases h
         rcases List.mem_cons.1 a with rfl | a
         · exact Ev hc
         · have h1:=ih r i hr t a
           have h2:=si hc
           exact ⟨h1.1,by omega⟩
theorem E7 {s:List UInt8} :(∀ t∈(cB s).1,(t.length=1∨3≤t.length)∧t.length≤s.length)∧(cB s).1.length≤16:=by
 unfold cB
 split
 · exact ⟨(fun t a=>by cases a),Nat.zero_le _⟩
 · split
   · exact ⟨(fun t a=>by cases a),Nat.zero_le _⟩
   · split
     · exact ⟨(fun t a=>by cases a),Nat.zero_le _⟩
     · rename_i xs h
       split
       · exact ⟨(fun t a=>by cases a),Nat.zero_le _⟩
       · exact ⟨(fun t a=>Fe _ _ _ h t a),by simp only; omega⟩
theorem yd {s:List UInt8} {k:Nat} :(s.drop k).getD 0 0=s.getD k 0:=by rw [List.getD_eq_getElem?_getD,List.getElem?_drop,← List.getD_eq_getElem?_getD]; rfl
theorem wg {s:List UInt8} {i m:Nat} (hb:s.getD i 0=91) (h:i+1 +m < s.length):91::(s.drop (i+1)).take (m+1)=(s.take (i+1 +m+1)).drop i:=by
 rw [List.drop_take,drop_cons 0 (show i < s.length by omega),hb,show i+1 +m+1 - i=m+1 +1 by omega,List.take_succ_cons]
theorem Jk {s:List UInt8} {i:Nat} (h:i < s.length):(s.take (i+1)).drop i= [s.getD i 0]:=by
 rw [List.drop_take,drop_cons 0 h,show i+1 - i=0 +1 by omega,List.take_succ_cons,List.take_zero]
theorem Cq {t:List UInt8} {b:UInt8} (h:t.length=1) (h1:¬t= [46]):((t.getD 0 0).toNat:Int)=(b.toNat:Int)↔t.getD 0 0=46∨t.getD 0 0=b:=by
 match t,h with
 | [c],_=>
   simp only [List.getD_cons_zero] at*
   constructor
   · intro h2; exact .inr (UInt8.toNat_inj.1 (by omega))
   · rintro (h2 | h2)
     · exact absurd (by rw [h2]) h1
     · rw [h2]
theorem zN {b:UInt8} (h:(b.toNat:Int)=94):b=94:=UInt8.toNat_inj.1 (by have :(94:UInt8).toNat=94:=rfl; omega)
theorem Jg {b:UInt8} (h:¬(b.toNat:Int)=94):b≠94:=by rintro rfl; exact h rfl
theorem As {l:List UInt8} {x:UInt8} (h:l.length=1) (a:l.getD 0 0=x):l= [x]:=by
 match l,h with
 | [c],_=>simp only [List.getD_cons_zero] at a; rw [a]
theorem KF {f:UInt8→Bool} (h:¬(bytesOf f).length=256) (h1:(bytesOf f).length=1) (h2:(bytesOf f).getD 0 0=46):eS f= [91,46,93]:=by
 have e:=As h1 h2
 have h3:¬f 93=true :=fun h4=>by have :=(wj f 93).2 h4; rw [e] at this; simp at this
 unfold eS; rw [if_neg h,if_neg (fun h4=>h4.2.1 h2),if_neg h3,e]; rfl
theorem KG {f:UInt8→Bool} (h:¬(bytesOf f).length=256) (h1:(bytesOf f).length=1) (h2:(bytesOf f).getD 0 0=91):eS f= [91,91,93]:=by
 have e:=As h1 h2
 have h3:¬f 93=true :=fun h4=>by have :=(wj f 93).2 h4; rw [e] at this; simp at this
 unfold eS; rw [if_neg h,if_neg (fun h4=>h4.2.2 h2),if_neg h3,e]; rfl
theorem z0 (s:List UInt8) (b:UInt8) (w:World) (hs:s.length≤1048576):
 aV Tryz.prog 187 (List.toArray [str s,.int .u8 b.toNat]) w (fun v w'=>v= .bool (decide (b∈s))∧Wk w w'):=by
 refine enter Tryz.func187 rfl Tryz.ntmps187 rfl ?_
 refine U (fun _ E=>(aj (((E _ _ (sq (fun _ G=>U (fun _ I=> ?_))))))))
 refine aj (((I _ _ (aA (lp (fun C a wI=> ∃ (i:Nat),(i≤s.length)∧(¬b∈s.take i)∧(wI=w)∧(a 0=str s)∧(a 1= .int .u8 b.toNat)∧(a 5=ae i)∧(s.length - i=C)) _ ⟨0,(by omega),((by simp)),rfl,rfl,rfl,rfl,rfl⟩ ?_)))))
 rintro C a wI ⟨i,hi,A,Y,aa,ab,ac,rfl⟩
 refine fx 0 aa (fx 1 ab (fx 5 ac ?_))
 subst Y
 refine sq (fun _ J=>U (fun _ M=>(ag (ae i) (ag (str s) (p (bK u9 rfl rfl) (p (lt rfl rfl) (nl ?_)))))))
 refine tn (M _ _ (cd rfl (fun Z=> ?_) (fun Z=> ?_)))
 refine az (tn (J _ _ (sq (fun _ j=>aA (U (fun _ O=>(ag (str s) (ag (ae i) ?_))))))))
 refine p (dB u9 rfl rfl (by omega)) (ag (.int .u8 b.toNat) (p (bd rfl rfl) (au ((O _ _ (cd rfl (fun q=> ?_) (fun q=> ?_)))))))
 refine U (fun _ V=>(aj (((V _ _ (rt (br (tr ?_))))))))
 exact tr (br (tr (f1 rfl rfl (⟨by show Value.bool true =_; rw [decide_eq_true (HQ (by omega) q)],Md.refl _ _⟩))))
 refine az (bn (tn (j _ _ (rg rfl (ag (ae i) (p (ad rfl rfl (bu (by omega))) (p ak (nl ?_))))))))
 exact tn (⟨_,by omega,i+1,(by omega),(HR (by omega) A q),rfl,rfl,rfl,rfl,rfl⟩)
 refine ext (te _ (te _ (be (tn (G _ _ (U (fun _ j=>(p ak ?_))))))))
 exact au ((j _ _ (rt (f1 rfl rfl (⟨by show Value.bool false =_; rw [List.take_of_length_le (by omega)] at A; rw [decide_eq_false A],Md.refl _ _⟩)))))
theorem Cr (t:List UInt8) (b:UInt8) (w:World) (aa:t.length=1∨3≤t.length) (htl:t.length≤1048576):
 aV Tryz.prog 182 (List.toArray [.agg [str t].toArray,.int .u8 b.toNat]) w (fun v w'=>v= .bool (bI t b)∧Wk w w'):=by
 refine enter Tryz.func182 rfl Tryz.ntmps182 rfl ?_
 refine U (fun _ A=>(e (jq rfl fun Z ae hb2 i hB2=>aj (((A _ _ (U (fun _ C=> ?_))))))))
 refine p (fa GL rfl) (p (ld bz rfl (hB2.aE 0)) (aj (((C _ _ (sq (fun _ E=>U (fun _ G=> ?_))))))))
 refine p mv (p (bK u9 rfl rfl) (p (bd rfl rfl) (au ((G _ _ (cd rfl (fun Y=> ?_) (fun Y=> ?_)))))))
 refine U (fun _ a=>(p mv (p (cM rfl rfl) (p mv (gs (t:=14) rfl (fun s=> ?_) (fun s=> ?_))))))
 refine sk rfl rfl rfl rfl (sk rfl rfl rfl rfl (sk rfl rfl rfl rfl (sk rfl rfl rfl rfl (p (bc rfl) (aj (((a _ _ ?_))))))))
 exact rt (tr (f1 rfl rfl (⟨by show Value.bool true =_; unfold bI; rw [if_pos (show t.length=1 by omega)]; rw [decide_eq_true (.inl (by rw [s]; rfl))],i.md⟩)))
 refine pg rfl rfl rfl mv (pg rfl rfl rfl (fz 0 u9 rfl rfl (by omega)) (pg rfl rfl rfl (aC (.int .u8 b.toNat) rfl) (pg rfl rfl rfl (bd rfl rfl) (p (a6 rfl) (aj (((a _ _ ?_))))))))
 exact rt (tr (f1 rfl rfl (⟨by show Value.bool (decide _)=_; unfold bI; rw [if_pos (show t.length=1 by omega)]; exact congrArg Value.bool (decide_eq_decide.2 (Cq (by omega) s)),i.md⟩)))
 refine az (tn (E _ _ (sq (fun _ a=>U (fun _ I=>(p mv (p (fz 1 u9 rfl rfl (by omega)) (p (bd rfl rfl) ?_))))))))
 refine au ((I _ _ (cd rfl (fun q=> ?_) (fun q=> ?_))))
 refine U (fun _ j=>(p mv (p mv (p (bK u9 rfl rfl) (p (cI ((t.length - 1:Nat):Int) rfl rfl (aQ (by omega) (by omega))) (p (iP u9 rfl rfl rfl (by omega)) (ag (.int .u8 b.toNat) ?_)))))))
 refine e (cl xj (z0 ((t.take (t.length - 1)).drop 2) b _ (by simp only [List.length_drop,List.length_take]; omega)) rfl fun ab w29 O=> ?_)
 obtain ⟨rfl,hE29⟩:=O
 refine aj (((j _ _ (U (fun _ J=>(p mv (p (no rfl) (p ak ?_))))))))
 exact au ((J _ _ (rt (tr (f1 rfl rfl (⟨by show Value.bool (!decide _)=_; unfold bI; rw [if_neg (show ¬t.length=1 by omega),if_pos (UInt8.toNat_inj.1 (by have h94:(94:UInt8).toNat=94:=rfl; omega))],Md.trans i.md hE29⟩))))))
 refine az (tn (a _ _ (U (fun _ j=>(p mv (p mv (p (bK u9 rfl rfl) (p (cI ((t.length - 1:Nat):Int) rfl rfl (aQ (by omega) (by omega))) ?_))))))))
 refine p (iP u9 rfl rfl rfl (by omega)) (ag (.int .u8 b.toNat) (e (cl xj (z0 ((t.take (t.length - 1)).drop 1) b _ (by simp only [List.length_drop,List.length_take]; omega)) rfl fun ac w38 V=> ?_)))
 obtain ⟨rfl,M⟩:=V
 exact aj (((j _ _ (rt (f1 rfl rfl (⟨by unfold bI; rw [if_neg (show ¬t.length=1 by omega),if_neg (fun h=>by rw [h] at q; exact q rfl)]; rfl,Md.trans i.md M⟩))))))
theorem vB (t:List UInt8) (b:UInt8) (bi:Int) (w:World) (a:t.length=1∨3≤t.length) (htl:t.length≤1048576) (hbi:(b.toNat:Int)=bi):aV Tryz.prog 182 (List.toArray [.agg [str t].toArray,.int .u8 bi]) w (fun v w'=>v= .bool (bI t b)∧Wk w w'):=by
 subst hbi; exact Cr t b w a htl
theorem vC (t:List UInt8) (q:Bool) (w:World) (aJ:t.length=1∨3≤t.length) (htl:t.length≤1048576):
 aV Tryz.prog 181 (List.toArray [.agg [str t].toArray,.bool q]) w (fun v w'=>World.ownsRow w' w.heap.size 5 1 (v) ((bytesOf (fun x=>decide (bI t x=q)))).length (U8 ((bytesOf (fun x=>decide (bI t x=q)))))∧Wk w w'):=by
 refine enter Tryz.func181 rfl Tryz.ntmps181 rfl ?_
 refine U (fun _ aa=>(e (jq rfl fun ao I hb2 Y hB2=>aj (((aa _ _ (U (fun _ ab=> ?_))))))))
 refine e (jo eT fun b8 w8 hb8 ax ar=> ?_)
 have aB:World.ownsRow w8 I.heap.size 5 1 (.slice (some ⟨b8,0,none⟩) 0 0) (([]:List UInt8)).length (U8 (([]:List UInt8))):=ar _ (by omega)
 refine aj (((ab _ _ (sq (fun _ ac=>U (fun _ ah=>(p ak (nl ?_))))))))
 refine tn (ah _ _ (aA (lp (fun O A wI=> ∃ (i:Nat) (a:Value),(i≤256)∧(World.ownsRow wI I.heap.size 5 1 (a) ((iF (fun x=>decide (bI t x=q)) i)).length (U8 ((iF (fun x=>decide (bI t x=q)) i))))∧(Wk I wI)∧(A 1= .bool q)∧(A 2=aI ao)∧(A 5=a)∧(A 6=ae i)∧(256 - i=O)) _ ⟨0,.slice (some ⟨b8,0,none⟩) 0 0,(by omega),aB,ax.md,rfl,rfl,rfl,rfl,rfl⟩ ?_)))
 rintro O A wI ⟨i,a,hi,G,E,aC,aD,aF,aH,rfl⟩
 refine fx 1 aC (fx 2 aD (fx 5 aF (fx 6 aH ?_)))
 have hbl:=lK (fun x=>decide (bI t x=q)) i
 refine sq (fun _ ai=>U (fun _ al=>(ag (ae i) (p (lt rfl rfl) (au ((al _ _ (cd rfl (fun hc10=> ?_) (fun hc10=> ?_)))))))))
 refine az (tn (ai _ _ (sq (fun _ C=>aA (U (fun _ am=>(p (dm nR rfl (rfl) (show ∀ j,j < 1→Hb.aE _ _ (0 +j)= [str t][j]? from fun j aO=>(by cases j with | zero=>exact (E.B hB2).aE 0 | succ j=>omega))) (ag (ae i) ?_))))))))
 refine p (ij u5 l9 rfl (nN (by omega))) (e (cl xi (vB t (UInt8.ofNat i) _ _ aJ htl (rp i (by omega))) rfl fun aP w16 hR16=> ?_))
 obtain ⟨rfl,s⟩:=hR16
 refine aj (((am _ _ (U (fun _ an=>(p mv (ag (.bool q) (p (F8 u4 rfl rfl) ?_))))))))
 refine au ((an _ _ (cd rfl (fun M=> ?_) (fun M=> ?_))))
 refine rg rfl (ag (a) (ag (ae i) (p (ij u5 l9 rfl (nN (by omega))) (e (ef eT rfl rfl fun aL w23 aM J aq=> ?_)))))
 have V:Wk I w23:=Md.trans (Md.trans E s) J.md
 refine e (ap eT (aG (aG G s) J.md) rfl (by have :=V.size; omega) rfl (aw.cV aq) (rfl) (rfl) (by omega) (by omega) fun aK aR Z av hz24 aN=> ?_)
 have hE24:=Wk.own V (aG (aG G s) J.md) av (Nat.le_refl _)
 rw [← rp i (by omega)] at Z
 have ho24x:=l1 Z
 refine p ak (nl (bn (tn (C _ _ (rg rfl (ag (ae i) (p (ba ((i+1:Nat):Int) rfl rfl (aQ (by omega) (by omega))) (p ak ?_))))))))
 exact au ((⟨_,by omega,i+1,aK,(by omega),((by rw [m6,if_pos (decide_eq_true M)]; exact ho24x)),hE24,rfl,rfl,rfl,rfl,rfl⟩))
 refine az (bn (tn (C _ _ (rg rfl (ag (ae i) (p (ba ((i+1:Nat):Int) rfl rfl (aQ (by omega) (by omega))) (p ak (nl ?_))))))))
 exact tn (⟨_,by omega,i+1,a,(by omega),((by rw [m6,if_neg (fun h=>M (of_decide_eq_true h)),List.append_nil]; exact aG G s)),(Md.trans E s),rfl,rfl,rfl,rfl,rfl⟩)
 refine ext (te _ (te _ (be (tn (ac _ _ (U (fun _ C=>(ag (a) ?_))))))))
 refine p (bJ (a) rfl) (au ((C _ _ (rt (f1 rfl rfl ?_)))))
 have ay:i=256:=by omega
 subst ay
 exact ⟨ga G Y.md.size,Md.trans Y.md E⟩
theorem KH (t:List UInt8) (w:World) (av:t.length=1∨3≤t.length) (htl:t.length≤1048576):
 aV Tryz.prog 168 (List.toArray [.agg [str t].toArray]) w (fun v w'=>v=str (eS (bI t))∧Wk w w'):=by
 have bF:(bytesOf (bI t)).length≤256:=lK _ 256
 have hnl:(bytesOf (fun x=> !bI t x)).length≤256:=lK _ 256
 have hba:=CW (f:=bI t)
 refine enter Tryz.func168 rfl Tryz.ntmps168 rfl ?_
 refine sq (fun _ aO=> ?_)
 refine rg rfl ?_
 refine e (jq rfl fun a2 w1 bz a9 hB1=> ?_)
 refine p ak ?_
 refine nl ?_
 refine tn (aO _ _ ?_)
 refine sq (fun _ aW=> ?_)
 refine rg rfl ?_
 refine p (dm nR rfl (rfl) (show ∀ j,j < 1→Hb.aE _ _ (0 +j)= [str t][j]? from fun j aK=>(by cases j with | zero=>exact (hB1).aE 0 | succ j=>omega))) ?_
 refine e (cl xh (vC t true _ av htl) rfl fun v10 w10 hR10=> ?_)
 obtain ⟨ho10,aF⟩:=hR10
 rw [wi (g:=bI t) (fun x=>by cases bI t x <;> rfl)] at ho10
 obtain ⟨O,U,rfl⟩:=b0 ho10
 have hCY:=(aM ho10).2
 have hB10:=aF.B hB1
 refine p ak ?_
 refine nl ?_
 refine tn (aW _ _ ?_)
 refine sq (fun _ aX=> ?_)
 refine rg rfl ?_
 refine p (dm nR rfl (rfl) (show ∀ j,j < 1→Hb.aE _ _ (0 +j)= [str t][j]? from fun j aK=>(by cases j with | zero=>exact (hB10).aE 0 | succ j=>omega))) ?_
 refine e (cl xh (vC t false _ av htl) rfl fun cC w12 bc=> ?_)
 obtain ⟨ho12,hE12⟩:=bc
 rw [wi (g:=fun x=> !bI t x) (fun x=>by cases bI t x <;> rfl)] at ho12
 obtain ⟨bu,bx,rfl⟩:=b0 ho12
 have hCY:=hCY.wk hE12
 have hB12:=hE12.B hB10
 have V:Wk w w12:=Md.trans a9.md (Md.trans aF hE12)
 refine p ak ?_
 refine nl ?_
 refine tn (aX _ _ ?_)
 refine sq (fun _ aY=> ?_)
 refine sq (fun _ aZ=> ?_)
 refine rg rfl ?_
 refine p mv ?_
 refine p (bg jm rfl rfl) ?_
 refine p (bd rfl rfl) ?_
 refine nl ?_
 refine tn (aZ _ _ ?_)
 refine cd rfl (fun hc15=> ?_) (fun hc15=> ?_)
 refine sq (fun _ ah=> ?_)
 refine rg rfl ?_
 refine p ak ?_
 refine nl ?_
 refine tn (ah _ _ ?_)
 refine rt ?_
 refine tr ?_
 refine f1 rfl rfl ?_
 exact ⟨by unfold eS; rw [if_pos (hba.1 (by omega))]; rfl,V⟩
 refine az ?_
 refine tn (aY _ _ ?_)
 refine sq (fun _ ah=> ?_)
 refine sq (fun _ a0=> ?_)
 refine rg rfl ?_
 refine p mv ?_
 refine p (bg jm rfl rfl) ?_
 refine p (bd rfl rfl) ?_
 refine nl ?_
 refine tn (a0 _ _ ?_)
 refine cd rfl (fun hc18=> ?_) (fun hc18=> ?_)
 refine sq (fun _ ai=> ?_)
 refine sq (fun _ aj=> ?_)
 refine rg rfl ?_
 refine p mv ?_
 refine p (aJ iL rfl rfl (by omega) (aw.ok (hCY) (lk (by omega)))) ?_
 refine p (ld kQ rfl (lj (i:=0) hCY (by omega))) ?_
 refine p (bd rfl rfl) ?_
 refine nl ?_
 refine tn (aj _ _ ?_)
 refine cd rfl (fun an=> ?_) (fun an=> ?_)
 refine sq (fun _ I=> ?_)
 refine rg rfl ?_
 refine p ak ?_
 refine nl ?_
 refine tn (I _ _ ?_)
 refine rt ?_
 refine tr ?_
 refine tr ?_
 refine f1 rfl rfl ?_
 exact ⟨by rw [KF (by omega) (by omega) (tD an)]; rfl,V⟩
 refine az ?_
 refine tn (ai _ _ ?_)
 refine sq (fun _ I=> ?_)
 refine sq (fun _ J=> ?_)
 refine rg rfl ?_
 refine p mv ?_
 refine p (aJ iL rfl rfl (by omega) (aw.ok (hCY) (lk (by omega)))) ?_
 refine p (ld kQ rfl (lj (i:=0) hCY (by omega))) ?_
 refine p (bd rfl rfl) ?_
 refine nl ?_
 refine tn (J _ _ ?_)
 refine cd rfl (fun ao=> ?_) (fun ao=> ?_)
 refine sq (fun _ M=> ?_)
 refine rg rfl ?_
 refine p ak ?_
 refine nl ?_
 refine tn (M _ _ ?_)
 refine rt ?_
 refine tr ?_
 refine tr ?_
 refine f1 rfl rfl ?_
 exact ⟨by rw [KG (by omega) (by omega) (qw ao)]; rfl,V⟩
 refine az ?_
 refine tn (I _ _ ?_)
 refine sq (fun _ M=> ?_)
 refine rg rfl ?_
 refine ag (.slice O (bytesOf (bI t)).length U) ?_
 refine p (jt jr rfl (hCY) (rfl)) ?_
 refine p ak ?_
 refine nl ?_
 refine tn (M _ _ ?_)
 refine rt ?_
 refine tr ?_
 refine f1 rfl rfl ?_
 exact ⟨by unfold eS; rw [if_neg (show ¬(bytesOf (bI t)).length=256 by omega),if_pos ⟨by omega,tV an,oE ao⟩]; rfl,V⟩
 refine az ?_
 refine tn (ah _ _ ?_)
 refine sq (fun _ ai=> ?_)
 refine rg rfl ?_
 refine p (dm nR rfl (rfl) (show ∀ j,j < 1→Hb.aE _ _ (0 +j)= [str t][j]? from fun j aK=>(by cases j with | zero=>exact (hB12).aE 0 | succ j=>omega))) ?_
 refine e (cl xi (vB t 93 _ _ av htl rfl) rfl fun v30 w30 bf=> ?_)
 obtain ⟨rfl,C⟩:=bf
 have hE30x:=Md.trans V C
 refine p ak ?_
 refine nl ?_
 refine tn (ai _ _ ?_)
 refine sq (fun _ aj=> ?_)
 refine sq (fun _ I=> ?_)
 refine rg rfl ?_
 refine p mv ?_
 refine nl ?_
 refine tn (I _ _ ?_)
 refine cb rfl (fun aq=> ?_) (fun aq=> ?_)
 refine sq (fun _ J=> ?_)
 refine rg rfl ?_
 refine p mv ?_
 refine p (jt jr rfl ((aM (aG ho12 C)).2) (rfl)) ?_
 refine p (cc rfl rfl (by simp only [List.length_cons,List.length_nil]; omega)) ?_
 refine p (cc rfl rfl (by simp only [List.length_cons,List.length_nil,List.length_append]; omega)) ?_
 refine p ak ?_
 refine nl ?_
 refine tn (J _ _ ?_)
 refine rt ?_
 refine tr ?_
 refine f1 rfl rfl ?_
 exact ⟨by unfold eS; rw [if_neg (show ¬(bytesOf (bI t)).length=256 by omega),if_neg (show ¬((bytesOf (bI t)).length=1∧_) from fun h=>by omega),if_pos aq]; rfl,hE30x⟩
 refine az ?_
 refine tn (aj _ _ ?_)
 refine sq (fun _ J=> ?_)
 refine rg rfl ?_
 refine e (jo eT fun ay w36 bA bb a3=> ?_)
 have bl:World.ownsRow w36 w30.heap.size 5 1 (.slice (some ⟨ay,0,none⟩) 0 0) (([]:List UInt8)).length (U8 (([]:List UInt8))):=a3 _ (by omega)
 refine p ak ?_
 refine nl ?_
 refine tn (J _ _ ?_)
 refine sq (fun _ M=> ?_)
 refine rg rfl ?_
 refine p ak ?_
 refine nl ?_
 refine tn (M _ _ ?_)
 refine sq (fun _ aP=> ?_)
 refine sq (fun _ aR=> ?_)
 refine rg rfl ?_
 refine p ak ?_
 refine nl ?_
 refine tn (aR _ _ ?_)
 refine aA ?_
 refine lp (fun aD G wI=> ∃ (i:Nat) (ob:Bool) (aa:Value),(i≤(bytesOf (bI t)).length)∧(ob=decide (94∈(bytesOf (bI t)).take i))∧(World.ownsRow wI w30.heap.size 5 1 (aa) ((((bytesOf (bI t)).take i).filter (fun b=>decide (b≠94)))).length (U8 ((((bytesOf (bI t)).take i).filter (fun b=>decide (b≠94))))))∧(Wk w30 wI)∧(G 1=aI a2)∧(G 3= .slice O (bytesOf (bI t)).length U)∧(G 6=aa)∧(G 7= .bool ob)∧(G 8=ae i)∧((bytesOf (bI t)).length - i=aD)) _ ⟨0,false,.slice (some ⟨ay,0,none⟩) 0 0,(by omega),rfl,bl,bb.md,rfl,rfl,rfl,rfl,rfl,rfl⟩ ?_
 rintro aD G wI ⟨i,ob,aa,hi,E,q,a,bm,bo,bp,bq,br,rfl⟩
 refine fx 1 bm (fx 3 bo (fx 6 bp (fx 7 bq (fx 8 br ?_))))
 have hfl:(((bytesOf (bI t)).take i).filter (fun b=>decide (b≠94))).length≤256:=Nat.le_trans (List.length_filter_le _ _) (by rw [List.length_take]; omega)
 refine sq (fun _ aS=> ?_)
 refine sq (fun _ aT=> ?_)
 refine rg rfl ?_
 refine ag (ae i) ?_
 refine ag (.slice O (bytesOf (bI t)).length U) ?_
 refine p (bg jm rfl rfl) ?_
 refine p (lt rfl rfl) ?_
 refine nl ?_
 refine tn (aT _ _ ?_)
 refine cd rfl (fun bh=> ?_) (fun bh=> ?_)
 refine az ?_
 refine tn (aS _ _ ?_)
 refine sq (fun _ A=> ?_)
 refine aA ?_
 refine sq (fun _ aU=> ?_)
 refine rg rfl ?_
 refine ag (.slice O (bytesOf (bI t)).length U) ?_
 refine ag (ae i) ?_
 refine p (aJ iL rfl rfl (by omega) (aw.ok (hCY.wk (Md.trans C a)) (lk (by omega)))) ?_
 refine p (ld kQ rfl (lj (i:=i) (hCY.wk (Md.trans C a)) (by omega))) ?_
 refine p (bd rfl rfl) ?_
 refine nl ?_
 refine tn (aU _ _ ?_)
 refine cd rfl (fun ar=> ?_) (fun ar=> ?_)
 have h94:=zN ar
 refine rg rfl ?_
 refine p ak ?_
 refine nl ?_
 refine bn ?_
 refine tn (A _ _ ?_)
 refine rg rfl ?_
 refine ag (ae i) ?_
 refine p (ba ((i+1:Nat):Int) rfl rfl (aQ (by omega) (by omega))) ?_
 refine p ak ?_
 refine nl ?_
 refine tn ?_
 exact ⟨_,by omega,i+1,true,aa,(by omega),((by rw [eo _ i 0 (by omega),h94,decide_eq_true (by simp)])),((by rw [eo _ i 0 (by omega),h94,List.filter_append,List.filter_cons_of_neg (by simp),List.filter_nil,List.append_nil]; exact q)),a,rfl,rfl,rfl,rfl,rfl,rfl⟩
 have h94:=Jg ar
 refine rg rfl ?_
 refine ag (aa) ?_
 refine ag (.slice O (bytesOf (bI t)).length U) ?_
 refine ag (ae i) ?_
 refine p (aJ iL rfl rfl (by omega) (aw.ok (hCY.wk (Md.trans C a)) (lk (by omega)))) ?_
 refine p (ld kQ rfl (lj (i:=i) (hCY.wk (Md.trans C a)) (by omega))) ?_
 refine e (ef eT rfl rfl fun bv w53 bB al a4=> ?_)
 have aH:Wk w30 w53:=Md.trans a al.md
 refine e (ap eT (aG q al.md) rfl (by have :=aH.size; omega) rfl (aw.cV a4) (rfl) (rfl) (by omega) (by omega) fun bt bJ bj a7 bG bD=> ?_)
 have hE54:=Wk.own aH (aG q al.md) a7 (Nat.le_refl _)
 have ho54x:=l1 bj
 refine p ak ?_
 refine nl ?_
 refine bn ?_
 refine tn (A _ _ ?_)
 refine rg rfl ?_
 refine ag (ae i) ?_
 refine p (ba ((i+1:Nat):Int) rfl rfl (aQ (by omega) (by omega))) ?_
 refine p ak ?_
 refine nl ?_
 refine tn ?_
 exact ⟨_,by omega,i+1,ob,bt,(by omega),((by rw [eo _ i 0 (by omega),E]; exact decide_eq_decide.2 (by rw [List.mem_append,List.mem_singleton]; exact ⟨.inl,fun h=>h.elim id (fun h=>absurd h.symm h94)⟩))),((by rw [eo _ i 0 (by omega),List.filter_append,List.filter_cons_of_pos (by simpa using h94),List.filter_nil]; exact ho54x)),hE54,rfl,rfl,rfl,rfl,rfl,rfl⟩
 refine ext ?_
 refine te _ ?_
 refine te _ ?_
 refine be ?_
 refine tn (aP _ _ ?_)
 refine c6 (fun aN wC=> ∃ (ab:Option Addr) (s ac:Nat),(((bytesOf (bI t)).filter (fun b=>decide (b≠94))++(if 94∈(bytesOf (bI t)) then [94] else [])).length=s)∧(World.ownsRow wC w30.heap.size 5 1 (.slice ab s ac) s (U8 ((bytesOf (bI t)).filter (fun b=>decide (b≠94))++(if 94∈(bytesOf (bI t)) then [94] else []))))∧(Wk w wC)∧(s≤300)∧(aN 6= .slice ab s ac)) ?_ ?_
 refine sq (fun _ A=> ?_)
 obtain ⟨ax,aB,rfl⟩:=b0 q
 have Z:(bytesOf (bI t)).take i=bytesOf (bI t):=List.take_of_length_le (by omega)
 rw [Z] at E
 refine rg rfl ?_
 refine ag (.bool ob) ?_
 refine nl ?_
 refine tn (A _ _ ?_)
 refine cb rfl (fun Y=> ?_) (fun Y=> ?_)
 refine rg rfl ?_
 refine p (aC (.slice ax (((bytesOf (bI t)).take i).filter (fun b=>decide (b≠94))).length aB) rfl) ?_
 refine e (ef eT rfl rfl fun bw w57 bC am a5=> ?_)
 have hE57:Wk w30 w57:=Md.trans a am.md
 refine e (ap eT (aG q am.md) rfl (by have :=hE57.size; omega) rfl (aw.cV a5) (rfl) (rfl) (by omega) (by omega) fun bH w58 au a8 hz58 bE=> ?_)
 have hE58:=Wk.own hE57 (aG q am.md) a8 (Nat.le_refl _)
 rw [Z] at au
 have ho58x:=l1 (x:=94) au
 obtain ⟨a1,c2,rfl⟩:=b0 au
 refine p ak ?_
 refine nl ?_
 refine tn ?_
 exact ⟨a1,_,c2,((by rw [if_pos (of_decide_eq_true (E ▸ Y)),List.length_append]; rfl)),((by rw [if_pos (of_decide_eq_true (E ▸ Y))]; rw [List.length_append] at ho58x; exact ho58x)),(Md.trans hE30x hE58),((by rw [← Z]; omega)),rfl⟩
 refine az ?_
 refine tn ?_
 exact ⟨ax,_,aB,((by rw [if_neg (of_decide_eq_false (E ▸ Y)),List.append_nil,Z])),((by rw [if_neg (of_decide_eq_false (E ▸ Y)),List.append_nil]; have h3:=q; rw [Z] at h3 ⊢; exact h3)),(Md.trans hE30x a),((by omega)),rfl⟩
 rintro aN wC ⟨ab,s,ac,aL,bk,a6,bi,bs⟩
 refine fx 6 bs ?_
 have hF3:((bytesOf (bI t)).filter (fun b=>decide (b≠94))++(if 94∈(bytesOf (bI t)) then [94] else [])).length≤300:=by rw [aL]; exact bi
 refine sq (fun _ A=> ?_)
 refine rg rfl ?_
 refine ag (.slice ab s ac) ?_
 refine p (jt jr rfl ((aM bk).2) (aL)) ?_
 refine p (cc rfl rfl (Nat.le_trans (Nat.add_le_add_left hF3 _) (by decide))) ?_
 refine p (cc rfl rfl (by rw [List.length_append]; exact Nat.le_trans (Nat.add_le_add_right (Nat.add_le_add_left hF3 _) _) (by decide))) ?_
 refine p ak ?_
 refine nl ?_
 refine tn (A _ _ ?_)
 refine rt ?_
 refine f1 rfl rfl ?_
 exact ⟨by unfold eS; rw [if_neg (show ¬(bytesOf (bI t)).length=256 by omega),if_neg (show ¬((bytesOf (bI t)).length=1∧_) from fun h=>by omega),if_neg (show ¬bI t 93=true from by rw [aq]; exact Bool.noConfusion)]; rfl,a6⟩
theorem EK (s:List UInt8) (i:Nat) (w:World) (hs:s.length≤1048576) (hi:i≤s.length):
 aV Tryz.prog 167 (List.toArray [str s,ae i]) w (fun v w'=>v= .int .i64 (kS s i)∧Wk w w'):=by
 refine enter Tryz.func167 rfl Tryz.ntmps167 rfl ?_
 refine U (fun _ I=>(aj (((I _ _ (sq (fun _ J=>aA (lp (fun G E wI=> ∃ (k:Nat),(i≤k∧k≤s.length)∧(∀ j,i≤j→j < k→s.getD j 0≠93)∧(wI=w)∧(E 0=str s)∧(E 1=ae k)∧(s.length - k=G)) _ ⟨i,(by omega),((fun j h1 h2=>by omega)),rfl,rfl,rfl,rfl⟩ ?_))))))))
 rintro G E wI ⟨k,hk,C,Z,aa,ab,rfl⟩
 refine fx 0 aa (fx 1 ab ?_)
 subst Z
 refine sq (fun _ M=>U (fun _ O=>(ag (ae k) (ag (str s) (p (bK u9 rfl rfl) (p (lt rfl rfl) (nl ?_)))))))
 refine tn (O _ _ (cd rfl (fun hc8=> ?_) (fun hc8=> ?_)))
 refine az (tn (M _ _ (aA (sq (fun _ a=>U (fun _ V=>(ag (str s) (ag (ae k) ?_))))))))
 refine p (dB u9 rfl rfl (by omega)) (p (bd rfl rfl) (au ((V _ _ (cd rfl (fun A=> ?_) (fun A=> ?_))))))
 have q:s.getD k 0=93:=UInt8.toNat_inj.1 (by have :(93:UInt8).toNat=93:=rfl; omega)
 refine U (fun _ Y=>(ag (ae k) (p (bJ (ae k) rfl) (au ((Y _ _ (rt (tr ?_))))))))
 exact br (tr (br (tr (f1 rfl rfl (⟨by rw [EO (k:=k) (by omega) C q]; rfl,Md.refl _ _⟩)))))
 have q:s.getD k 0≠93:=fun h=>by rw [h] at A; exact A rfl
 refine az (tn (a _ _ (rg rfl (ag (ae k) (p (ba ((k+1:Nat):Int) rfl rfl (aQ (by omega) (by omega))) (p ak (nl (bn ?_))))))))
 exact tn (⟨_,by omega,k+1,(by omega),((fun j h1 h2=>by rcases Nat.lt_or_ge j k with h | h <;> first | exact C j h1 h | (rw [show j=k by omega]; exact q))),rfl,rfl,rfl,rfl⟩)
 refine ext (te _ (te _ (be (tn (J _ _ (U (fun _ a=>(p ak ?_))))))))
 exact au ((a _ _ (rt (f1 rfl rfl (⟨by rw [EP (fun j h1 h2=>C j h1 (by omega))]; rfl,Md.refl _ _⟩)))))
theorem JN (s:List UInt8) (w:World) (hs:s.length≤1048576):
 aV Tryz.prog 142 (List.toArray [str s]) w (fun v w'=>(∃ a,v= .tuple #[a,ae ((cB s).2)]∧World.ownsRow w' w.heap.size 261 1 (a) ((cB s).1).length (((cB s).1).map str))∧Wk w w'):=by
 refine enter Tryz.func142 rfl Tryz.ntmps142 rfl ?_
 refine U (fun _ aD=>(p ak (aj (((aD _ _ (sq (fun _ aF=>sq (fun _ aq=> ?_)))))))))
 refine rg rfl (ag (str s) (p (bK u9 rfl rfl) (p (bd rfl rfl) (p mv (gs (t:=11) rfl (fun hg11=> ?_) (fun hg11=> ?_))))))
 refine sk rfl rfl rfl rfl (sk rfl rfl rfl rfl (sk rfl rfl rfl rfl (p (bc rfl) (au ((aq _ _ (ct rfl (sq (fun _ O=> ?_)))))))))
 refine rg rfl (p ak (aj (((O _ _ (rt (tr (f2 rfl rfl rfl ?_))))))))
 exact ⟨⟨.slice none 0 0,by unfold cB; rw [if_pos (.inl (List.eq_nil_of_length_eq_zero (by omega)))]; rfl,by unfold cB; rw [if_pos (.inl (List.eq_nil_of_length_eq_zero (by omega)))]; exact World.ownsRow_nil _ _ _ _⟩,Md.refl _ _⟩
 refine pg rfl rfl rfl (aC (str s) rfl) (pg rfl rfl rfl (bK u9 rfl rfl) (pg rfl rfl rfl (gt rfl rfl) (p (a6 rfl) (au ((aq _ _ (cd rfl (fun hc15=> ?_) (fun hc15=> ?_))))))))
 refine U (fun _ O=>(p ak (aj (((O _ _ (rt (tr ?_))))))))
 exact f2 rfl rfl rfl (⟨⟨.slice none 0 0,by unfold cB; rw [if_pos (.inr (by omega))]; rfl,by unfold cB; rw [if_pos (.inr (by omega))]; exact World.ownsRow_nil _ _ _ _⟩,Md.refl _ _⟩)
 refine az (tn (aF _ _ (U (fun _ O=>(aj (((O _ _ (sq (fun _ aH=> ?_))))))))))
 refine U (fun _ aI=>(ag (str s) (p (cM rfl rfl) (au ((aI _ _ (cd rfl (fun C=> ?_) (fun C=> ?_))))))))
 refine U (fun _ ac=>(p mv (p ak (aj (((ac _ _ (rt ?_))))))))
 refine tr (f2 rfl rfl rfl ?_)
 have ay:¬(s= []∨512 < s.length):=fun h=>h.elim (fun h=>by rw [h] at hg11; exact hg11 rfl) (fun h=>by omega)
 exact ⟨⟨.slice none 0 0,by unfold cB; rw [if_neg ay,if_pos C]; rfl,by unfold cB; rw [if_neg ay,if_pos C]; exact World.ownsRow_nil _ _ _ _⟩,Md.refl _ _⟩
 refine az (tn (aH _ _ (U (fun _ ac=>(aj (((ac _ _ (sq (fun _ aJ=> ?_))))))))))
 refine aA (lp (fun ar aa wI=> ∃ (i:Nat) (dn:List (List UInt8)) (G:Value),(i≤s.length∧dn.length≤i)∧(gz s i dn)∧(World.ownsRow wI w.heap.size 261 1 (G) (dn).length ((dn).map str))∧(Wk w wI)∧(aa 0=str s)∧(aa 4=G)∧(aa 5=ae i)∧(s.length - i=ar)) _ ⟨0,[],.slice none 0 0,((by simp)),(gz.start s),(World.ownsRow_nil _ _ _ _),(Md.refl _ _),rfl,rfl,rfl,rfl⟩ ?_)
 rintro ar aa wI ⟨i,dn,G,hi,E,V,A,aZ,a0,a1,rfl⟩
 refine fx 0 aZ (fx 4 a0 (fx 5 a1 (sq (fun _ aK=>U (fun _ aE=>(ag (ae i) (ag (str s) (p (bK u9 rfl rfl) (p (lt rfl rfl) ?_)))))))))
 refine au ((aE _ _ (cd rfl (fun aP=> ?_) (fun aP=> ?_))))
 refine az (tn (aK _ _ (aA (U (fun _ ab=>(ag (ae i) (p (ba ((i+1:Nat):Int) rfl rfl (aQ (by omega) (by omega))) (p ak ?_))))))))
 refine au ((ab _ _ ?_))
 refine c6 (fun Y wC=> ∃ (j:Nat),(i < j∧j≤s.length)∧(gz s j (dn++ [(s.take j).drop i]))∧(World.ownsRow wC w.heap.size 261 1 (G) (dn).length ((dn).map str))∧(Wk w wC)∧(Y 0=str s)∧(Y 4=G)∧(Y 5=ae i)∧(Y 6=ae j)) ?_ ?_
 refine U (fun _ I=>(ag (str s) (ag (ae i) (p (dB u9 rfl rfl (by omega)) (p (bd rfl rfl) (au ((I _ _ ?_))))))))
 refine cd rfl (fun am=> ?_) (fun am=> ?_)
 refine U (fun _ J=>(ag (str s) (ag (ae i) (e (cl DC (EK s i _ hs (by omega)) rfl fun bi w31 aO=> ?_)))))
 obtain ⟨rfl,hE31⟩:=aO
 have hb91:=qw am
 obtain ⟨ax,aS⟩:=EN (show i < s.length by omega) hb91
 have hdi:=drop_cons (l:=s) (i:=i) 0 (by omega)
 have hdl:(s.drop (i+1)).length=s.length - (i+1):=List.length_drop
 refine aj (((J _ _ (sq (fun _ ao=>U (fun _ Z=>(p mv (p (lt rfl rfl) ?_))))))))
 refine p mv (gs (t:=34) rfl (fun aT=> ?_) (fun aT=> ?_))
 have q:eX (s.drop i)=none:=by
  rw [hdi,hb91]
  exact pN rfl (fun h=>(ax.1 (by omega)) h.1)
 have hcr:=E.bad (by omega) q
 refine sk rfl rfl rfl rfl (sk rfl rfl rfl rfl (sk rfl rfl rfl rfl (sk rfl rfl rfl rfl (p (bc rfl) (p mv (sk rfl rfl rfl rfl (sk rfl rfl rfl rfl ?_)))))))
 refine sk rfl rfl rfl rfl (sk rfl rfl rfl rfl (sk rfl rfl rfl rfl (et rfl rfl rfl (et rfl rfl rfl (et rfl rfl rfl (et rfl rfl rfl (et rfl rfl rfl ?_)))))))
 refine sk rfl rfl rfl rfl (p (bc rfl) (au ((Z _ _ (ct rfl (U (fun _ M=>(p ak ?_))))))))
 refine aj (((M _ _ (rt (tr (tr (br (tr ?_))))))))
 refine br (tr (f2 rfl rfl rfl ?_))
 have hz:cB s=([],41):=by unfold cB; rw [if_neg (fun h=>h.elim (fun h=>by rw [h] at hg11; exact hg11 rfl) (fun h=>by omega)),if_neg C,hcr]
 exact ⟨⟨.slice none 0 0,by rw [hz]; rfl,by rw [hz]; exact World.ownsRow_nil _ _ _ _⟩,Md.trans A hE31⟩
 have hck:=aS (by omega)
 have hml:(s.drop (i+1)).idxOf 93 < (s.drop (i+1)).length:=Decidable.of_not_not (fun h=>by have :=ax.2 h; omega)
 refine pg rfl rfl rfl mv (pg rfl rfl rfl (aC (ae i) rfl) (pg rfl rfl rfl (ba ((i+1:Nat):Int) rfl rfl (aQ (by omega) (by omega))) (pg rfl rfl rfl (bd rfl rfl) (p (a6 rfl) (p mv (gs (t:=40) rfl (fun aU=> ?_) (fun aU=> ?_)))))))
 have q:eX (s.drop i)=none:=by
  rw [hdi,hb91]
  exact pN rfl (fun h=>h.2.1 (by omega))
 have hcr:=E.bad (by omega) q
 refine sk rfl rfl rfl rfl (sk rfl rfl rfl rfl (sk rfl rfl rfl rfl (sk rfl rfl rfl rfl (sk rfl rfl rfl rfl (et rfl rfl rfl (et rfl rfl rfl (et rfl rfl rfl ?_)))))))
 refine et rfl rfl rfl (et rfl rfl rfl (sk rfl rfl rfl rfl (p (bc rfl) (au ((Z _ _ (ct rfl (sq (fun _ M=> ?_)))))))))
 refine rg rfl (p ak (aj (((M _ _ (rt (tr (tr ?_))))))))
 refine br (tr (br (tr (f2 rfl rfl rfl ?_))))
 have hz:cB s=([],41):=by unfold cB; rw [if_neg (fun h=>h.elim (fun h=>by rw [h] at hg11; exact hg11 rfl) (fun h=>by omega)),if_neg C,hcr]
 exact ⟨⟨.slice none 0 0,by rw [hz]; rfl,by rw [hz]; exact World.ownsRow_nil _ _ _ _⟩,Md.trans A hE31⟩
 refine pg rfl rfl rfl mv (pg rfl rfl rfl (aC (ae i) rfl) (pg rfl rfl rfl (ba ((i+2:Nat):Int) rfl rfl (aQ (by omega) (by omega))) (pg rfl rfl rfl (bd rfl rfl) (pg rfl rfl rfl mv (gs (t:=45) rfl (fun aW=> ?_) (fun aW=> ?_))))))
 refine pg rfl rfl rfl (aC (str s) rfl) (pg rfl rfl rfl (aC (ae i) rfl) (pg rfl rfl rfl (ba ((i+1:Nat):Int) rfl rfl (aQ (by omega) (by omega))) (pg rfl rfl rfl (dB u9 rfl rfl (by omega)) (pg rfl rfl rfl (bd rfl rfl) (pg rfl rfl rfl (bc rfl) (p (a6 rfl) (nl ?_)))))))
 refine tn (Z _ _ (cd rfl (fun an=> ?_) (fun an=> ?_)))
 have q:eX (s.drop i)=none:=by
  rw [hdi,hb91]
  exact pN rfl (fun h=>h.2.2 ⟨by omega,by rw [yd]; exact zN an⟩)
 have hcr:=E.bad (by omega) q
 refine U (fun _ M=>(p ak (aj (((M _ _ (rt (tr ?_))))))))
 refine tr (br (tr (br (tr (f2 rfl rfl rfl ?_)))))
 have hz:cB s=([],41):=by unfold cB; rw [if_neg (fun h=>h.elim (fun h=>by rw [h] at hg11; exact hg11 rfl) (fun h=>by omega)),if_neg C,hcr]
 exact ⟨⟨.slice none 0 0,by rw [hz]; rfl,by rw [hz]; exact World.ownsRow_nil _ _ _ _⟩,Md.trans A hE31⟩
 have q:eX (s.drop i)=some (91::(s.drop (i+1)).take ((s.drop (i+1)).idxOf 93 +1),(s.drop (i+1)).drop ((s.drop (i+1)).idxOf 93 +1)):=by
  rw [hdi,hb91]
  exact sj rfl hml (by omega) (fun h=>an (by rw [← yd,h.2]; rfl))
 have hgo2:=E.step (j:=i+1 +(s.drop (i+1)).idxOf 93 +1) q (by rw [List.drop_drop]; rfl)
 rw [wg hb91 (by omega)] at hgo2
 refine az (tn (ao _ _ (rg rfl (p mv (p (ba ((i+1 +(s.drop (i+1)).idxOf 93 +1:Nat):Int) rfl rfl (aQ (by omega) (by omega))) (p ak (nl (tn ?_))))))))
 exact ⟨i+1 +(s.drop (i+1)).idxOf 93 +1,((by omega)),hgo2,(aG V hE31),(Md.trans A hE31),rfl,rfl,rfl,rfl⟩
 have q:eX (s.drop i)=some (91::(s.drop (i+1)).take ((s.drop (i+1)).idxOf 93 +1),(s.drop (i+1)).drop ((s.drop (i+1)).idxOf 93 +1)):=by
  rw [hdi,hb91]
  exact sj rfl hml (by omega) (fun h=>by omega)
 have hgo2:=E.step (j:=i+1 +(s.drop (i+1)).idxOf 93 +1) q (by rw [List.drop_drop]; rfl)
 rw [wg hb91 (by omega)] at hgo2
 refine sk rfl rfl rfl rfl (sk rfl rfl rfl rfl (sk rfl rfl rfl rfl (sk rfl rfl rfl rfl (sk rfl rfl rfl rfl (pg rfl rfl rfl (a6 rfl) (p (a6 rfl) (nl ?_)))))))
 refine tn (Z _ _ (cf rfl (az (tn (ao _ _ (rg rfl (p mv (p (ba ((i+1 +(s.drop (i+1)).idxOf 93 +1:Nat):Int) rfl rfl (aQ (by omega) (by omega))) (p ak ?_)))))))))
 exact au ((⟨i+1 +(s.drop (i+1)).idxOf 93 +1,((by omega)),hgo2,(aG V hE31),(Md.trans A hE31),rfl,rfl,rfl,rfl⟩))
 have hn91:=oE am
 have hdi:=drop_cons (l:=s) (i:=i) 0 (by omega)
 have q:eX (s.drop i)=some ([s.getD i 0],s.drop (i+1)):=by rw [hdi]; exact xB hn91
 have hgo2:=E.step (j:=i+1) q rfl
 rw [← Jk (show i < s.length by omega)] at hgo2
 exact az (tn (⟨i+1,((by omega)),hgo2,V,A,rfl,rfl,rfl,rfl⟩))
 rintro Y wC ⟨j,bf,aX,aB,aM,a2,a3,a4,a5⟩
 refine fx 0 a2 (fx 4 a3 (fx 5 a4 (fx 6 a5 (U (fun _ I=>(ag (G) (ag (str s) (ag (ae i) (ag (ae j) (p (iP u9 rfl rfl rfl (by omega)) ?_))))))))))
 refine p (bV (ps:= [(0,str ((s.take j).drop i))]) (L:= [str ((s.take j).drop i)]) Le rfl (rfl)) (e (ic Bg rfl rfl rfl fun a8 w61 a9 al aL=> ?_))
 have av:Wk w w61:=Md.trans aM al.md
 refine e (ap Bg (aG aB al.md) rfl (by have :=av.size; omega) rfl (aw.cV aL) (rfl) (rfl) (by omega) (by omega) fun a7 bj aY aN bh bb=> ?_)
 have hE62:=Wk.own av (aG aB al.md) aN (Nat.le_refl _)
 have ho62x:=Js aY
 refine aj (((I _ _ (rg rfl (ag (ae j) (p (bJ (ae j) rfl) (nl (bn ?_))))))))
 exact tn (⟨_,by omega,j,dn++ [(s.take j).drop i],a7,((by rw [List.length_append,List.length_singleton]; omega)),aX,ho62x,hE62,rfl,rfl,rfl,rfl⟩)
 refine ext (te _ (te _ (be (tn (aJ _ _ (sq (fun _ ab=>sq (fun _ I=> ?_))))))))
 obtain ⟨ah,ai,rfl⟩:=b0 V
 have hcr:=E.done (by omega)
 refine rg rfl (ag (.slice ah dn.length ai) (p (bg uS rfl rfl) (p (gt rfl rfl) (au ((I _ _ (cd rfl (fun aR=> ?_) (fun aR=> ?_))))))))
 refine U (fun _ J=>(p ak (aj (((J _ _ (rt (tr ?_))))))))
 refine f2 rfl rfl rfl ?_
 have hz:cB s=([],42):=by unfold cB; rw [if_neg (fun h=>h.elim (fun h=>by rw [h] at hg11; exact hg11 rfl) (fun h=>by omega)),if_neg C,hcr]; exact if_pos (by omega)
 exact ⟨⟨.slice none 0 0,by rw [hz]; rfl,by rw [hz]; exact World.ownsRow_nil _ _ _ _⟩,A⟩
 refine az (tn (ab _ _ (U (fun _ J=>(ag (.slice ah dn.length ai) (p (bJ (.slice ah dn.length ai) rfl) (p ak (nl ?_))))))))
 refine tn (J _ _ (rt (f2 rfl rfl rfl ?_)))
 have hz:cB s=(dn,0):=by unfold cB; rw [if_neg (fun h=>h.elim (fun h=>by rw [h] at hg11; exact hg11 rfl) (fun h=>by omega)),if_neg C,hcr]; exact if_neg (by omega)
 exact ⟨⟨_,by rw [hz]; rfl,by rw [hz]; exact V⟩,A⟩
theorem Km (ps:List (List UInt8)) (a:Option Addr) (c:Nat) (w:World) (hC:aw w.heap a (ps.map str)) (hn:ps.length≤4096) (G:∀ t∈ps,(t.length=1∨3≤t.length)∧t.length≤1048576):
 aV Tryz.prog 143 (List.toArray [.slice a ps.length c]) w (fun v w'=>v=str (jH ps)∧Wk w w'):=by
 refine enter Tryz.func143 rfl Tryz.ntmps143 rfl ?_
 refine U (fun _ I=>(aj (((I _ _ (sq (fun _ M=>U (fun _ O=> ?_))))))))
 refine ag (.slice a ps.length c) (p (bg uS rfl rfl) (p (bd rfl rfl) (au ((O _ _ (cd rfl (fun hc8=> ?_) (fun hc8=> ?_)))))))
 refine U (fun _ A=>(aj (((A _ _ (rt (tr (f1 rfl rfl ?_))))))))
 exact ⟨by unfold jH; rw [if_pos (List.eq_nil_of_length_eq_zero (by omega))]; rfl,Md.refl _ _⟩
 refine az (tn (M _ _ (U (fun _ A=>(aj (((A _ _ (sq (fun _ V=> ?_))))))))))
 refine U (fun _ Y=>(aj (((Y _ _ (aA (lp (fun E s wI=> ∃ (i:Nat),(i≤ps.length)∧(Wk w wI)∧(((ps.take i).flatMap fun t=>eS (bI t)).length≤i*300)∧(s 0= .slice a ps.length c)∧(s 3=str ((ps.take i).flatMap fun t=>eS (bI t)))∧(s 4=ae i)∧(ps.length - i=E)) _ ⟨0,(by omega),(Md.refl _ _),((by simp)),rfl,(by first | rfl | (rw [eo ps i [] (by omega),List.flatMap_append,List.flatMap_singleton]; rfl)),rfl,rfl⟩ ?_)))))))
 rintro E s wI ⟨i,hi,q,hlen,ai,al,am,rfl⟩
 refine fx 0 ai (fx 3 al (fx 4 am (sq (fun _ Z=>U (fun _ aa=>(ag (ae i) (ag (.slice a ps.length c) (p (bg uS rfl rfl) (p (lt rfl rfl) ?_)))))))))
 refine au ((aa _ _ (cd rfl (fun ah=> ?_) (fun ah=> ?_))))
 refine az (tn (Z _ _ (sq (fun _ C=>aA (U (fun _ J=>(ag (.slice a ps.length c) (ag (ae i) ?_))))))))
 refine p (aJ Gh rfl rfl (by omega) (aw.ok (hC.wk q) (bo (by omega)))) (p (dm nR rfl (rfl) (show ∀ j,j < 1→Hb.aE wI.heap (bk a) (fo a+i*1 +j)= [str (ps.getD i [])][j]? from fun j an=>(by cases j with | zero=>exact (IK (hC.wk q) (by omega)) | succ j=>omega))) (e (cl DD (KH (ps.getD i []) _ (G _ (c5 (by omega))).1 (G _ (c5 (by omega))).2) rfl fun ao w19 ac=> ?_)))
 obtain ⟨rfl,ab⟩:=ac
 have hsl:=A7 (bI (ps.getD i []))
 refine aj (((J _ _ (rg rfl (ag (str ((ps.take i).flatMap fun t=>eS (bI t))) (p mv (p (cc rfl rfl (by omega)) (p ak ?_))))))))
 refine nl (bn (tn (C _ _ (rg rfl (ag (ae i) (p (ba ((i+1:Nat):Int) rfl rfl (aQ (by omega) (by omega))) (p ak (nl ?_))))))))
 exact tn (⟨_,by omega,i+1,(by omega),(Md.trans q ab),((by rw [eo ps i [] (by omega),List.flatMap_append,List.flatMap_singleton,List.length_append]; omega)),rfl,(by first | rfl | (rw [eo ps i [] (by omega),List.flatMap_append,List.flatMap_singleton]; rfl)),rfl,rfl⟩)
 refine ext (te _ (te _ (be (tn (V _ _ (U (fun _ C=>(ag (str ((ps.take i).flatMap fun t=>eS (bI t))) ?_))))))))
 exact p (bJ (str ((ps.take i).flatMap fun t=>eS (bI t))) rfl) (au ((C _ _ (rt (f1 rfl rfl (⟨by unfold jH; rw [if_neg (fun h=>by rw [h] at hc8; exact hc8 rfl),show ps.take i=ps from List.take_of_length_le (by omega)]; rfl,q⟩))))))
end Go.Hb.o5
end
section
set_option maxRecDepth 20000
set_option maxHeartbeats 1000000
namespace Go.Hb.mj
open Go.Hb.du
open Go.Proofs
open Go.Hb.gn
theorem zi {α:Type} {l:List α} {i:Nat} {d:α} (h:i < l.length):l.getD i d∈l:=by
 rw [List.getD_eq_getElem?_getD,List.getElem?_eq_getElem h]; exact List.getElem_mem h
theorem ux (s:List UInt8) (w:World) (hs:s.length≤1048576):
 aV Tryz.prog 40 (List.toArray [str s]) w (fun v w'=>World.ownsRow w' w.heap.size 9 1 (v) ((a7 s)).length (((a7 s)).map str)∧Wk w w'):=by
 refine enter Tryz.func40 rfl Tryz.ntmps40 rfl ?_
 refine U (fun _ aF=>(aj (((aF _ _ ?_)))))
 refine c6 (fun aE aD=>(Wk w aD)∧(aE 0=str (gU s))) ?_ ?_
 refine U (fun _ ab=>(ag (str s) (e (cl DK (IM s _) rfl fun bt w8 hR8=> ?_))))
 obtain ⟨rfl,ax⟩:=hR8
 refine au ((ab _ _ (cb rfl (fun hc8=> ?_) (fun hc8=> ?_))))
 have hml:=IL hc8
 exact rg rfl (ag (str s) (p (kz u9 rfl rfl (by omega)) (aj (((⟨ax,by show str (s.drop 3)=_; rw [LJ hc8]⟩))))))
 exact az (tn (⟨ax,by show str s=_; rw [LI hc8]⟩))
 rintro aE aD ⟨ar,a5⟩
 refine fx 0 a5 ?_
 have htl:=rq s
 refine U (fun _ ab=>(aj (((ab _ _ (U (fun _ aH=>(e (jo eT fun an w11 hb11 aY aO=> ?_)))))))))
 have a3:World.ownsRow w11 w.heap.size 5 1 (.slice (some ⟨an,0,none⟩) 0 0) (([]:List UInt8)).length (U8 (([]:List UInt8))):=aO _ (by have :=ar.size; omega)
 have aT:Wk w w11:=Md.trans ar aY.md
 refine aj (((aH _ _ (U (fun _ aI=>(aj (((aI _ _ ?_)))))))))
 refine sq (fun _ aJ=>U (fun _ aK=>(aj (((aK _ _ (aA (lp (fun aq C wI=> ∃ (i:Nat) (dn:List (List UInt8)) (a:List UInt8) (ob:Bool) (q V:Value),(i≤(gU s).length)∧(dn++dY a ((gU s).drop i)=a7 s)∧(ob=decide (a≠[]))∧(a.length≤i)∧(Wk w wI)∧(World.ownsRow wI w.heap.size 9 1 (q) (dn).length ((dn).map str))∧(World.ownsRow wI w.heap.size 5 1 (V) (a).length (U8 (a)))∧(C 0=str (gU s))∧(C 3=q)∧(C 4=V)∧(C 5= .bool ob)∧(C 6= .int .i64 i)∧((gU s).length - i=aq)) _ ⟨0,[],[],false,.slice none 0 0,.slice (some ⟨an,0,none⟩) 0 0,(by omega),rfl,rfl,((by simp)),aT,(World.ownsRow_nil _ _ _ _),a3,rfl,rfl,rfl,rfl,rfl,rfl⟩ ?_))))))))
 rintro aq C wI ⟨i,dn,a,ob,q,V,hi,hd,aC,hcl,M,A,j,a6,a8,a9,ba,bb,rfl⟩
 refine fx 0 a6 (fx 3 a8 (fx 4 a9 (fx 5 ba (fx 6 bb ?_))))
 have hdl:dn.length≤s.length+1:=by have h1:=congrArg List.length hd; have h2:=jY s; rw [List.length_append] at h1; omega
 have hsz:=M.size
 refine sq (fun _ aL=>U (fun _ aN=>(ag (.int .i64 i) (ag (str (gU s)) (p (bK u9 rfl rfl) (p (lt rfl rfl) (nl ?_)))))))
 refine tn (aN _ _ (cd rfl (fun hc15=> ?_) (fun hc15=> ?_)))
 refine az (tn (aL _ _ (sq (fun _ G=>aA (sq (fun _ Y=>U (fun _ E=>(ag (str (gU s)) ?_))))))))
 refine ag (.int .i64 i) (p (dB u9 rfl rfl (by omega)) (p (bH rfl rfl) (au ((E _ _ (cd rfl (fun al=> ?_) (fun al=> ?_)))))))
 refine U (fun _ Z=>(ag (V) (ag (str (gU s)) (ag (.int .i64 i) (p (dB u9 rfl rfl (by omega)) (e (ef eT rfl rfl fun bf w26 bi O aP=> ?_)))))))
 have hE26:Wk w w26:=Md.trans M O.md
 refine e (ap eT (aG j O.md) rfl (by have :=hE26.size; omega) rfl (aw.cV aP) (rfl) (rfl) (by omega) (by omega) fun bc bv a1 ay hz27 bm=> ?_)
 have hE27:=Wk.own hE26 (aG j O.md) ay (Nat.le_refl _)
 have ho27x:=l1 a1
 have hod27:=bX (aG A O.md) ay (fun k hk=>jg A j (by decide) hk)
 refine aj (((Z _ _ (U (fun _ aa=>(aj (((aa _ _ ?_)))))))))
 refine ext (te _ (be (tn (G _ _ (rg rfl (ag (.int .i64 i) (p (ad rfl rfl (bu (by omega))) (p ak ?_))))))))
 exact au ((⟨_,by omega,i+1,dn,a++ [(gU s).getD i 0],true,q,bc,(by omega),((by rw [drop_cons 0 (by omega),tL (Je al)] at hd; exact hd)),((by simp)),((by rw [List.length_append,List.length_singleton]; omega)),hE27,hod27,ho27x,rfl,rfl,rfl,rfl,rfl,rfl⟩))
 have hb10:=H6 (Decidable.of_not_not al)
 obtain ⟨I,J,rfl⟩:=b0 j
 refine az (tn (Y _ _ (U (fun _ Z=>(ag (q) (ag (.slice I a.length J) (e (cl xv (yi a I J _ (aM j).2 (by omega) (aM j).1) rfl fun v30 w30 aZ=> ?_))))))))
 obtain ⟨rfl,ac⟩:=aZ
 refine e (ef dV rfl rfl fun bg w31 bj ah aQ=> ?_)
 have hE31:Wk w w31:=Md.trans (Md.trans M ac) ah.md
 refine e (ap dV (aG (aG A ac) ah.md) rfl (by have :=hE31.size; omega) rfl (aw.cV aQ) (rfl) (rfl) (by omega) (by omega) fun bd bw a2 aW hz32 bo=> ?_)
 have hE32:=Wk.own hE31 (aG (aG A ac) ah.md) aW (Nat.le_refl _)
 have ho32x:=jh a2
 refine aj (((Z _ _ (U (fun _ aa=>(e (jo eT fun ao w33 bk aB aR=> ?_)))))))
 have aU:Wk w w33:=Md.trans hE32 aB.md
 have a4:World.ownsRow w33 w.heap.size 5 1 (.slice (some ⟨ao,0,none⟩) 0 0) (([]:List UInt8)).length (U8 (([]:List UInt8))):=aR _ (by have :=hE32.size; omega)
 refine aj (((aa _ _ (rg rfl (p ak (nl (bn (tn (G _ _ ?_)))))))))
 exact rg rfl (ag (.int .i64 i) (p (ad rfl rfl (bu (by omega))) (aj (((⟨_,by omega,i+1,dn++ [fX a],[],false,bd,.slice (some ⟨ao,0,none⟩) 0 0,(by omega),((by rw [drop_cons 0 (by omega),hb10,z5] at hd; rw [List.append_assoc]; exact hd)),rfl,((by simp)),aU,(aG ho32x aB.md),a4,rfl,rfl,rfl,rfl,rfl,rfl⟩))))))
 refine ext (te _ (te _ (be (tn (aJ _ _ (sq (fun _ G=>U (fun _ Y=> ?_))))))))
 refine ag (.bool ob) (au ((Y _ _ (cb rfl (fun am=> ?_) (fun am=> ?_)))))
 have hne:a≠[]:=by have :=aC.symm.trans am; exact of_decide_eq_true this
 obtain ⟨I,J,rfl⟩:=b0 j
 refine rg rfl (ag (q) (ag (.slice I a.length J) (e (cl xv (yi a I J _ (aM j).2 (by omega) (aM j).1) rfl fun br w37 a0=> ?_))))
 obtain ⟨rfl,ae⟩:=a0
 refine e (ef dV rfl rfl fun bh w38 bl ai aS=> ?_)
 have av:Wk w w38:=Md.trans (Md.trans M ae) ai.md
 refine e (ap dV (aG (aG A ae) ai.md) rfl (by have :=av.size; omega) rfl (aw.cV aS) (rfl) (rfl) (by omega) (by omega) fun bs w39 ho39 aX bq bp=> ?_)
 have hE39:=Wk.own av (aG (aG A ae) ai.md) aX (Nat.le_refl _)
 have ho39x:=jh ho39
 refine aj (((G _ _ (U (fun _ E=>(p mv (p ak (nl ?_))))))))
 refine tn (E _ _ (rt (f1 rfl rfl ?_)))
 have hd2:dn++ [fX a]=a7 s:=by rw [← hd,show List.drop i (gU s)= [] from List.drop_eq_nil_of_le (by omega),z4 hne]
 exact ⟨by rw [← hd2]; exact ho39x,hE39⟩
 have hne:a= []:=Decidable.of_not_not (of_decide_eq_false (aC.symm.trans am))
 refine az (tn (G _ _ (U (fun _ E=>(ag (q) (p (bJ (q) rfl) (au ((E _ _ ?_)))))))))
 refine rt (f1 rfl rfl ?_)
 have hd2:dn=a7 s:=by rw [← hd,show List.drop i (gU s)= [] from List.drop_eq_nil_of_le (by omega),hne,tM,List.append_nil]
 exact ⟨by rw [← hd2]; exact A,M⟩
set_option maxHeartbeats 1000000 in
theorem AU (s:List UInt8) (w:World) (hs:s.length≤1048576):
 aV Tryz.prog 18 (List.toArray [str s]) w (fun v w'=>(∃ a,v= .tuple #[a,.int .i64 (if 65536 < s.length then 10 else 0)]∧(if 65536 < s.length then a= .slice none 0 0 else ∃ vs,World.ownsRow w' w.heap.size 50 2 a (bf s).length (gK vs)∧eK w' w.heap.size 9 vs (bf s)))∧Wk w w'):=by
 refine enter Tryz.func18 rfl Tryz.ntmps18 rfl ?_
 refine U (fun _ aT=>(p ak (aj (((aT _ _ (sq (fun _ aZ=>sq (fun _ a0=> ?_)))))))))
 refine rg rfl (ag (str s) (p (bK u9 rfl rfl) (p (gt rfl rfl) (au ((a0 _ _ (cd rfl (fun bh=> ?_) (fun bh=> ?_))))))))
 refine U (fun _ ay=>(p ak (aj (((ay _ _ (rt (tr ?_))))))))
 refine f2 rfl rfl rfl ?_
 have hl:65536 < s.length:=by omega
 exact ⟨⟨.slice none 0 0,by show Value.tuple #[.slice none 0 0,.int .i64 10]=_; rw [if_pos hl],by rw [if_pos hl]⟩,Md.refl _ _⟩
 refine az (tn (aZ _ _ (U (fun _ ay=>(aj (((ay _ _ (sq (fun _ a1=> ?_))))))))))
 refine rg rfl (ag (str s) (e (cl r4 (ux s _ hs) rfl fun bO w14 a9=> ?_)))
 obtain ⟨aR,hE14⟩:=a9
 obtain ⟨ao,ar,rfl⟩:=b0 aR
 have hS14:=(aM aR).2
 have hll:=jY s
 refine aj (((a1 _ _ (sq (fun _ a2=>U (fun _ a3=>(p ak (nl ?_))))))))
 refine tn (a3 _ _ (aA (lp (fun ah ax wI=> ∃ (i:Nat) (J:Value) (vs:List (Nat×Value)),(i≤(a7 s).length)∧(Wk w14 wI)∧(World.ownsRow wI w14.heap.size 50 2 J (hU 1 ((a7 s).take i)).length (gK vs))∧(eK wI w14.heap.size 9 vs (hU 1 ((a7 s).take i)))∧(ax 4=J)∧(ax 5= .slice ao (a7 s).length ar)∧(ax 6= .int .i64 i)∧((a7 s).length - i=ah)) _ ⟨0,.slice none 0 0,[],(by omega),(Md.refl _ _),(World.ownsRow_nil _ _ _ _),(eK.nil _ _ _),rfl,rfl,rfl,rfl⟩ ?_)))
 rintro ah ax wI ⟨i,J,vs,hi,al,I,hrw,bq,br,bs,rfl⟩
 refine fx 4 bq (fx 5 br (fx 6 bs ?_))
 have hrl:=uy ((a7 s).take i) 1
 rw [List.length_take] at hrl
 have hsz:=al.size
 refine sq (fun _ a4=>sq (fun _ a5=> ?_))
 have bM:((a7 s).getD i []).length≤s.length:=by rcases Nat.lt_or_ge i (a7 s).length with h | h <;> first | exact tJ (zi h) | (rw [List.getD_eq_getElem?_getD,List.getElem?_eq_none h]; exact Nat.zero_le _)
 refine rg rfl (ag (.int .i64 i) (ag (.slice ao (a7 s).length ar) (p (bg dy rfl rfl) (p (lt rfl rfl) (au ((a5 _ _ (cd rfl (fun hc18=> ?_) (fun hc18=> ?_)))))))))
 refine az (tn (a4 _ _ (sq (fun _ aa=>aA (U (fun _ aU=>(p ak (nl ?_))))))))
 refine tn (aU _ _ (U (fun _ aW=>(ag (.slice ao (a7 s).length ar) (ag (.int .i64 i) (p (aJ bC rfl rfl (by omega) (aw.ok (hS14.wk al) (bo (by omega)))) (p (ld bz rfl (bp.get (i:=i) (hS14.wk al) (by omega))) (e (cl DW (Ke ((a7 s).getD i []) _ (by omega)) rfl fun bP w25 bb=> ?_)))))))))
 obtain ⟨aS,hE25⟩:=bb
 obtain ⟨an,aq,rfl⟩:=b0 aS
 have hS25:=(aM aS).2
 have ab:Wk w14 w25:=Md.trans al hE25
 have hfl:=od ((a7 s).getD i []) []
 refine aj (((aW _ _ (sq (fun _ aN=>U (fun _ aX=>(p ak (nl ?_))))))))
 refine tn (aX _ _ (aA (lp (fun ah Z aL=> ∃ (j:Nat) (av:Value),(j≤(bB [] ((a7 s).getD i [])).length)∧(∀ q,q < j→oL ((bB [] ((a7 s).getD i [])).getD q [])=false)∧(Wk w25 aL)∧(World.ownsRow aL w25.heap.size 9 1 (av) (((bB [] ((a7 s).getD i [])).take j)).length ((((bB [] ((a7 s).getD i [])).take j)).map str))∧(Z 4=J)∧(Z 5= .slice ao (a7 s).length ar)∧(Z 6= .int .i64 i)∧(Z 7=av)∧(Z 8= .slice an (bB [] ((a7 s).getD i [])).length aq)∧(Z 9= .int .i64 j)∧((bB [] ((a7 s).getD i [])).length - j=ah)) _ ⟨0,.slice none 0 0,(by omega),((fun q bm=>by omega)),(Md.refl _ _),(World.ownsRow_nil _ _ _ _),rfl,rfl,rfl,rfl,rfl,rfl,rfl⟩ ?_)))
 rintro ah Z aL ⟨j,av,aP,aI,A,O,bt,bv,bw,bx,bA,bD,rfl⟩
 refine fx 4 bt (fx 5 bv (fx 6 bw (fx 7 bx (fx 8 bA (fx 9 bD ?_)))))
 have hkl:((bB [] ((a7 s).getD i [])).take j).length≤j:=by rw [List.length_take]; omega
 have hszJ:=A.size
 refine sq (fun _ aY=>U (fun _ aO=>(ag (.int .i64 j) (ag (.slice an (bB [] ((a7 s).getD i [])).length aq) (p (bg dy rfl rfl) (p (lt rfl rfl) (p mv ?_)))))))
 refine gs (t:=30) rfl (fun bk=> ?_) (fun bk=> ?_)
 refine pg rfl rfl rfl (aC (.slice an (bB [] ((a7 s).getD i [])).length aq) rfl) (pg rfl rfl rfl (aC (.int .i64 j) rfl) (pg rfl rfl rfl (aJ bC rfl rfl (by omega) (aw.ok (hS25.wk A) (bo (by omega)))) (pg rfl rfl rfl (ld bz rfl (bp.get (i:=j) (hS25.wk A) (by omega))) (pg rfl rfl rfl (fz 0 u9 rfl rfl (List.length_pos_iff.2 (sW _ _ _ (zi (by omega))).1)) (pg rfl rfl rfl (bH rfl rfl) (p (bc rfl) (nl ?_)))))))
 refine tn (aO _ _ (cd rfl (fun bi=> ?_) (fun bi=> ?_)))
 refine az (tn (aY _ _ (sq (fun _ ac=>aA (rg rfl (ag (av) (ag (.slice an (bB [] ((a7 s).getD i [])).length aq) (ag (.int .i64 j) ?_))))))))
 refine p (aJ bC rfl rfl (by omega) (aw.ok (hS25.wk A) (bo (by omega)))) (p (ld bz rfl (bp.get (i:=j) (hS25.wk A) (by omega))) (e (ef dV rfl rfl fun bG w45 bI aF a8=> ?_)))
 have hE45:Wk w25 w45:=Md.trans A aF.md
 refine e (ap dV (aG O aF.md) rfl (by have :=hE45.size; omega) rfl (aw.cV a8) (rfl) (rfl) (by omega) (by omega) fun bF w46 bl hM46 bN bL=> ?_)
 have hE46:=Wk.own hE45 (aG O aF.md) hM46 (Nat.le_refl _)
 have ho46x:=jh bl
 refine p ak (nl (bn (tn (ac _ _ (rg rfl (ag (.int .i64 j) (p (ad rfl rfl (bu (by omega))) (p ak ?_))))))))
 exact au ((⟨_,by omega,j+1,bF,(by omega),((fun q bm=>by rcases Nat.lt_or_ge q j with h | h <;> first | exact aI q h | (rw [show q=j by omega]; exact decide_eq_false (by omega)))),hE46,((by rw [eo _ j [] (by omega)]; exact ho46x)),rfl,rfl,rfl,rfl,rfl,rfl,rfl⟩))
 have am:jX (bB [] ((a7 s).getD i []))=((bB [] ((a7 s).getD i [])).take j):=qy aP aI (.inr (decide_eq_true (by omega)))
 obtain ⟨E,G,rfl⟩:=b0 O
 refine ext (te _ (te _ (be (tn (aN _ _ (U (fun _ ac=>(p (aC (.slice E ((bB [] ((a7 s).getD i [])).take j).length G) rfl) ?_))))))))
 refine p (bg dy rfl rfl) (p (gt rfl rfl) (au ((ac _ _ (cd rfl (fun Y=> ?_) (fun Y=> ?_))))))
 have M:g6 ((a7 s).getD i []) (1 +i)= [(i+1,((bB [] ((a7 s).getD i [])).take j))]:=by unfold g6; rw [am,if_neg (fun h=>by rw [h] at Y; simp at Y),Nat.add_comm]
 refine rg rfl (ag (J) (ag (.int .i64 i) (p (ba ((i+1:Nat):Int) rfl rfl (aQ (by omega) (by omega))) (p (aC (.slice E ((bB [] ((a7 s).getD i [])).take j).length G) rfl) (p (bV (ps:= [(0,ae (i+1)),(1,.slice E ((bB [] ((a7 s).getD i [])).take j).length G)]) (L:= [ae (i+1),.slice E ((bB [] ((a7 s).getD i [])).take j).length G]) Bt rfl (rfl)) (e (ic qY rfl rfl rfl fun aB w55 bd C aD=> ?_)))))))
 have aE:bE w55.heap aB [ae (i+1),.slice E ((bB [] ((a7 s).getD i [])).take j).length G]:=aD
 have ai:Wk w14 w55:=Md.trans ab (Md.trans A C.md)
 refine e (ap qY (aG (aG (aG I hE25) A) C.md) rfl (by have :=ai.size; omega) rfl (aw.cV aE) (rfl) (rfl) (by omega) (by omega) fun aK w56 aH V hz56 bj=> ?_)
 have hE56:=Wk.own ai (aG (aG (aG I hE25) A) C.md) V (Nat.le_refl _)
 have hrw56:=((((hrw.wk hE25).wk A).wk C.md).md V (eR (aG (aG (aG I hE25) A) C.md) (by decide))).snoc (n:=i+1) (Tg.fZ (ga (bX (aG O C.md) V (fun k hk=>jg (aG O C.md) (aG (aG (aG I hE25) A) C.md) (by decide) hk)) (by have :=Md.size ab; omega)))
 refine p ak (nl (bn (tn (aa _ _ (rg rfl (ag (.int .i64 i) (p (ad rfl rfl (bu (by omega))) (p ak ?_))))))))
 exact au ((⟨_,by omega,i+1,aK,vs++ [(i+1,.slice E ((bB [] ((a7 s).getD i [])).take j).length G)],(by omega),hE56,((by rw [eo _ i [] (by omega),jD,show ((a7 s).take i).length=i from by rw [List.length_take]; omega,M,List.length_append,uD]; exact aH)),((by rw [eo _ i [] (by omega),jD,show ((a7 s).take i).length=i from by rw [List.length_take]; omega,M]; exact hrw56)),rfl,rfl,rfl,rfl⟩))
 have M:∀ n,g6 ((a7 s).getD i []) n= []:=fun n=>by unfold g6; rw [am,if_pos (List.length_eq_zero_iff.1 (by omega))]
 refine az (bn (tn (aa _ _ (rg rfl (ag (.int .i64 i) (p (ad rfl rfl (bu (by omega))) (p ak (nl ?_))))))))
 exact tn (⟨_,by omega,i+1,J,vs,(by omega),(Md.trans ab A),((by rw [eo _ i [] (by omega),jD,M,List.append_nil]; exact aG (aG I hE25) A)),((by rw [eo _ i [] (by omega),jD,M,List.append_nil]; exact (hrw.wk hE25).wk A)),rfl,rfl,rfl,rfl⟩)
 have am:jX (bB [] ((a7 s).getD i []))=((bB [] ((a7 s).getD i [])).take j):=qy aP aI (.inl (by omega))
 obtain ⟨E,G,rfl⟩:=b0 O
 refine sk rfl rfl rfl rfl (sk rfl rfl rfl rfl (sk rfl rfl rfl rfl (sk rfl rfl rfl rfl (sk rfl rfl rfl rfl (sk rfl rfl rfl rfl (p (a6 rfl) (nl ?_)))))))
 refine tn (aO _ _ (cf rfl (ext (te _ (te _ (be (tn (aN _ _ (sq (fun _ ac=> ?_))))))))))
 refine rg rfl (p (aC (.slice E ((bB [] ((a7 s).getD i [])).take j).length G) rfl) (p (bg dy rfl rfl) (p (gt rfl rfl) (au ((ac _ _ (cd rfl (fun Y=> ?_) (fun Y=> ?_))))))))
 have M:g6 ((a7 s).getD i []) (1 +i)= [(i+1,((bB [] ((a7 s).getD i [])).take j))]:=by unfold g6; rw [am,if_neg (fun h=>by rw [h] at Y; simp at Y),Nat.add_comm]
 refine rg rfl (ag (J) (ag (.int .i64 i) (p (ba ((i+1:Nat):Int) rfl rfl (aQ (by omega) (by omega))) (p (aC (.slice E ((bB [] ((a7 s).getD i [])).take j).length G) rfl) (p (bV (ps:= [(0,ae (i+1)),(1,.slice E ((bB [] ((a7 s).getD i [])).take j).length G)]) (L:= [ae (i+1),.slice E ((bB [] ((a7 s).getD i [])).take j).length G]) Bt rfl (rfl)) (e (ic qY rfl rfl rfl fun aB w55 bd C aD=> ?_)))))))
 have aE:bE w55.heap aB [ae (i+1),.slice E ((bB [] ((a7 s).getD i [])).take j).length G]:=aD
 have ai:Wk w14 w55:=Md.trans ab (Md.trans A C.md)
 refine e (ap qY (aG (aG (aG I hE25) A) C.md) rfl (by have :=ai.size; omega) rfl (aw.cV aE) (rfl) (rfl) (by omega) (by omega) fun aK w56 aH V hz56 bj=> ?_)
 have hE56:=Wk.own ai (aG (aG (aG I hE25) A) C.md) V (Nat.le_refl _)
 have hrw56:=((((hrw.wk hE25).wk A).wk C.md).md V (eR (aG (aG (aG I hE25) A) C.md) (by decide))).snoc (n:=i+1) (Tg.fZ (ga (bX (aG O C.md) V (fun k hk=>jg (aG O C.md) (aG (aG (aG I hE25) A) C.md) (by decide) hk)) (by have :=Md.size ab; omega)))
 refine p ak (nl (bn (tn (aa _ _ (rg rfl (ag (.int .i64 i) (p (ad rfl rfl (bu (by omega))) (p ak ?_))))))))
 exact au ((⟨_,by omega,i+1,aK,vs++ [(i+1,.slice E ((bB [] ((a7 s).getD i [])).take j).length G)],(by omega),hE56,((by rw [eo _ i [] (by omega),jD,show ((a7 s).take i).length=i from by rw [List.length_take]; omega,M,List.length_append,uD]; exact aH)),((by rw [eo _ i [] (by omega),jD,show ((a7 s).take i).length=i from by rw [List.length_take]; omega,M]; exact hrw56)),rfl,rfl,rfl,rfl⟩))
 have M:∀ n,g6 ((a7 s).getD i []) n= []:=fun n=>by unfold g6; rw [am,if_pos (List.length_eq_zero_iff.1 (by omega))]
 refine az (bn (tn (aa _ _ (rg rfl (ag (.int .i64 i) (p (ad rfl rfl (bu (by omega))) (p ak (nl ?_))))))))
 exact tn (⟨_,by omega,i+1,J,vs,(by omega),(Md.trans ab A),((by rw [eo _ i [] (by omega),jD,M,List.append_nil]; exact aG (aG I hE25) A)),((by rw [eo _ i [] (by omega),jD,M,List.append_nil]; exact (hrw.wk hE25).wk A)),rfl,rfl,rfl,rfl⟩)
 refine ext (te _ (te _ (be (tn (a2 _ _ (U (fun _ aa=>(ag (J) ?_))))))))
 refine p (bJ (J) rfl) (aj (((aa _ _ (rt (f2 rfl rfl rfl ?_))))))
 have hl:¬65536 < s.length:=by omega
 rw [show (a7 s).take i=a7 s from List.take_of_length_le (by omega)] at I hrw
 exact ⟨⟨J,by show Value.tuple #[J,.int .i64 0]=_; rw [if_neg hl],by rw [if_neg hl]; exact ⟨vs,ga I hE14.size,hrw.mono hE14.size⟩⟩,Md.trans hE14 al⟩
end Go.Hb.mj
end
section
set_option maxRecDepth 20000
set_option maxHeartbeats 1000000
namespace Go.Hb.mV
open Go.Hb.du
open Go.Proofs
open Go.Hb.kN Go.Hb.ff Go.Hb.fM Go.Hb.iS Go.Hb.fV Go.Hb.iw Go.Hb.jM Go.Hb.kI Go.Hb.mW Go.Hb.gB Go.Hb.o6 Go.Hb.o5 Go.Hb.mj Go.Hb.gn Go.Hb.fP
theorem oQ {s:Tx} {k:Tx} {i:Nat} (h:s=k) (h1:k∈cJ) (h2:cJ.idxOf k=i):la s=(i:Nat):=by subst h; unfold la; rw [if_pos h1,h2]
theorem KR {s:Tx} (h:s∉cJ):la s= -1:=if_neg h
def nz:List Tx:= [eQ,e5,fp,gv,dE,db]
theorem BV {s:Tx} (h:s∈cJ):width s=2:=if_pos (.inl h)
theorem LR {s:Tx} (h:s∈nz):width s=2:=by
 unfold width
 rw [if_pos]
 simpa [nz] using Or.inr (List.mem_cons.1 h)
theorem BW {s:Tx} (h:s=dQ∨s=bQ):width s=4:=by
 unfold width
 rw [if_neg,if_pos h]
 rcases h with rfl | rfl <;> decide
theorem LS {s:Tx} (h:s∉cJ) (h1:s∉nz) (h2:s≠dQ) (h3:s≠bQ):width s=0:=by
 unfold width
 rw [if_neg,if_neg (by simp [h2,h3])]
 intro h4
 rcases h4 with h4 | h4
 · exact h h4
 · exact h1 (by simpa [nz] using h4)
theorem zl {F:aH} {V:fj} {i:Nat} (hi:i < 5):(jV F V).toArray[0 +3 +((i:Nat):Int).toNat*1]? =some (bA (F.sp.getD i 0)):=by
 match i,hi with
 | 0,_=>rfl
 | 1,_=>rfl
 | 2,_=>rfl
 | 3,_=>rfl
 | 4,_=>rfl
theorem z9 {x:Nat} {l:List Nat} (h:∀ j,j < l.length→l.getD j 0≠x):x∉l:=fun hm=>by
 obtain ⟨j,a,e⟩:=k5 0 hm
 exact h j a e
theorem Gp {x:Nat} :∀ {cs:List bW} {i:Nat} {c:bW},(∀ j,j < i→(cs.getD j jR).flag≠x)→cs[i]? =some c→c.flag=x→dK cs x=some c:=by
 intro cs
 induction cs with
 | nil=>intro i c _ h; simp at h
 | cons a l ih=>
   intro i c p hi q
   unfold dK
   rw [List.find?_cons]
   cases i with
   | zero=>simp only [List.getElem?_cons_zero,Option.some.injEq] at hi; subst hi; simp [q]
   | succ i=>
     have h0:=p 0 (by omega)
     simp only [List.getD_cons_zero] at h0
     rw [decide_eq_false h0]
     exact ih (i:=i) (fun j s=>by have :=p (j+1) (by omega); simpa using this) (by simpa using hi) q
theorem Gr {x:Nat} {cs:List bW} (h:∀ j,j < cs.length→(cs.getD j jR).flag≠x):dK cs x=none:=by
 unfold dK
 rw [List.find?_eq_none]
 intro c hc
 obtain ⟨j,a,e⟩:=k5 jR hc
 have :=h j a
 rw [e] at this
 simpa using this
theorem GX (l:List bW):(lS l).length=l.length*5:=kp (f:=jw) (m:=5) (fun _=>rfl) _
theorem qp {l:List bW} (h:0 < l.length):lS l≠[]:=fun h2=>by have :=congrArg List.length h2; rw [GX] at this; simp at this; omega
theorem n7 {l:List bW} {i:Nat} (h:i < l.length):l[i]? =some (l.getD i jR):=by rw [List.getD_eq_getElem?_getD,List.getElem?_eq_getElem h]; rfl
theorem x4 {F:aH} {x:Nat} (h:x∈F.sp):dx F x=true :=by unfold dx; rw [decide_eq_true h]; rfl
theorem x5 {F:aH} {x:Nat} (h:x∉F.sp):dx F x=(dK F.a3 x).isSome:=by unfold dx; rw [decide_eq_false h]; rfl
theorem qL {s:Tx} (h:s∈cJ∨s=db∨s=dQ∨s=bQ):s∈g9:=by
 rcases h with h | rfl | rfl | rfl
 · have :∀ k∈cJ,k∈g9:=by decide
   exact this s h
 all_goals decide
theorem Jp {s:Tx} (h:s∉cJ) (h1:s≠db) (h2:s≠dQ) (h3:s≠bQ):s∉g9:=by
 intro h4
 have :∀ k∈g9,k∈cJ∨k=db∨k=dQ∨k=bQ:=by decide
 rcases this s h4 with h5 | h5 | h5 | h5
 · exact h h5
 · exact h1 h5
 · exact h2 h5
 · exact h3 h5
theorem qM {seen:List Tx} (h:∀ j,j < seen.length→seen.getD j []∉g9):ordered seen=true :=by
 rw [uc]
 intro k hk i
 obtain ⟨j,a,e⟩:=k5 [] i
 exact h j a (e ▸ hk)
theorem tv (s:Tx) (w:World):
 aV Tryz.prog 78 (List.toArray [str s]) w (fun v w'=>v= .int .i64 (la s)∧w'=w):=by
 refine enter Tryz.func78 rfl Tryz.ntmps78 rfl ?_
 refine U (fun _ I=>(aj (((I _ _ (sq (fun _ J=>U (fun _ M=> ?_))))))))
 refine ag (str s) (au ((M _ _ (aA (U (fun _ O=>(p (cM rfl rfl) (p ak ?_))))))))
 refine au ((O _ _ (cd rfl (fun G=> ?_) (fun G=> ?_))))
 refine U (fun _ a=>(aj (((a _ _ (rt (br (tr ?_))))))))
 exact f1 rfl rfl (⟨by rw [oQ (k:=gw) (i:=0) G (by decide) (by decide)]; rfl,rfl⟩)
 refine U (fun _ a=>(p (cM rfl rfl) (aj (((a _ _ (cd rfl (fun hc6=> ?_) (fun hc6=> ?_))))))))
 refine U (fun _ j=>(aj (((j _ _ (rt (br (tr ?_))))))))
 exact f1 rfl rfl (⟨by rw [oQ (k:=gG) (i:=1) hc6 (by decide) (by decide)]; rfl,rfl⟩)
 refine U (fun _ j=>(p (cM rfl rfl) (aj (((j _ _ (cd rfl (fun hc8=> ?_) (fun hc8=> ?_))))))))
 refine U (fun _ q=>(aj (((q _ _ (rt (br (tr ?_))))))))
 exact f1 rfl rfl (⟨by rw [oQ (k:=gQ) (i:=2) hc8 (by decide) (by decide)]; rfl,rfl⟩)
 refine U (fun _ q=>(p (cM rfl rfl) (aj (((q _ _ (cd rfl (fun hc10=> ?_) (fun hc10=> ?_))))))))
 refine U (fun _ A=>(aj (((A _ _ (rt (br (tr ?_))))))))
 exact f1 rfl rfl (⟨by rw [oQ (k:=g5) (i:=3) hc10 (by decide) (by decide)]; rfl,rfl⟩)
 refine U (fun _ A=>(p (cM rfl rfl) (aj (((A _ _ (cd rfl (fun E=> ?_) (fun E=> ?_))))))))
 refine U (fun _ C=>(aj (((C _ _ (rt (br (tr ?_))))))))
 exact f1 rfl rfl (⟨by rw [oQ (k:=im) (i:=4) E (by decide) (by decide)]; rfl,rfl⟩)
 refine az (bn (tn (J _ _ (U (fun _ C=>(aj (((C _ _ ?_)))))))))
 exact rt (f1 rfl rfl (⟨by rw [KR (by unfold cJ; simp only [List.mem_cons,List.not_mem_nil,or_false,not_or]; exact ⟨G,hc6,hc8,hc10,E⟩)]; rfl,rfl⟩))
theorem Hj (s:Tx) (w:World):
 aV Tryz.prog 41 (List.toArray [str s]) w (fun v w'=>v=ae (width s)∧Wk w w'):=by
 refine enter Tryz.func41 rfl Tryz.ntmps41 rfl ?_
 refine U (fun _ Z=>(aj (((Z _ _ (U (fun _ ac=>(ag (str s) ?_))))))))
 refine e (cl r9 (tv s w) rfl fun ap w5 hR5=> ?_)
 obtain ⟨rfl,ao⟩:=hR5
 have hE5:Wk w w5:=by rw [ao]; exact Md.refl _ _
 refine aj (((ac _ _ (sq (fun _ ah=>U (fun _ ai=>(p mv (p (ge rfl rfl) ?_))))))))
 refine au ((ai _ _ (cd rfl (fun E=> ?_) (fun E=> ?_))))
 have hsp:=nA.1 E
 refine U (fun _ q=>(aj (((q _ _ (rt (tr (f1 rfl rfl ?_))))))))
 exact ⟨by rw [BV hsp]; rfl,hE5⟩
 have hsp:s∉cJ:=fun h=>E (nA.2 h)
 refine az (tn (ah _ _ (sq (fun _ q=>U (fun _ ak=>(ag (str s) (au ((ak _ _ ?_)))))))))
 refine aA ?_
 refine c6 (fun G O=> ∃ (b:Bool),(b=decide (s∈nz))∧(Wk w O)∧(G 8=str s)∧(G 9= .bool b)) ?_ ?_
 refine U (fun _ i=>(p (cM rfl rfl) (aj (((i _ _ (cd rfl (fun a=> ?_) (fun a=> ?_))))))))
 exact az (tn (⟨_,((by rw [a]; decide)),hE5,rfl,rfl⟩))
 refine U (fun _ al=>(p (cM rfl rfl) (aj (((al _ _ (cd rfl (fun a=> ?_) (fun a=> ?_))))))))
 exact az (tn (⟨_,((by rw [a]; decide)),hE5,rfl,rfl⟩))
 refine U (fun _ am=>(p (cM rfl rfl) (aj (((am _ _ (cd rfl (fun a=> ?_) (fun a=> ?_))))))))
 exact az (tn (⟨_,((by rw [a]; decide)),hE5,rfl,rfl⟩))
 refine U (fun _ aa=>(p (cM rfl rfl) (aj (((aa _ _ (cd rfl (fun a=> ?_) (fun a=> ?_))))))))
 exact az (tn (⟨_,((by rw [a]; decide)),hE5,rfl,rfl⟩))
 refine U (fun _ ab=>(p (cM rfl rfl) (aj (((ab _ _ (cd rfl (fun a=> ?_) (fun a=> ?_))))))))
 exact az (tn (⟨_,((by rw [a]; decide)),hE5,rfl,rfl⟩))
 exact rg rfl (p (cM rfl rfl) (aj (((⟨_,((by clear hsp; unfold nz; simp_all [eQ,e5,fp,gv,dE,db])),hE5,rfl,rfl⟩)))))
 rintro G O ⟨b,hb,C,J,M⟩
 refine fx 8 J (fx 9 M (cb rfl (fun a=> ?_) (fun a=> ?_)))
 refine U (fun _ i=>(aj (((i _ _ (rt (br (tr ?_))))))))
 exact f1 rfl rfl (⟨by rw [LR (of_decide_eq_true (hb.symm.trans a))]; rfl,C⟩)
 refine c6 (fun Y V=> ∃ (A:Bool),(A=decide (s=dQ∨s=bQ))∧(Wk w V)∧(Y 16= .bool A)) ?_ ?_
 refine U (fun _ i=>(p (cM rfl rfl) (aj (((i _ _ (cd rfl (fun j=> ?_) (fun j=> ?_))))))))
 exact az (tn (⟨_,((by rw [j]; decide)),C,rfl⟩))
 exact rg rfl (p (cM rfl rfl) (aj (((⟨_,((by clear hb J M; simp [dQ,bQ,j])),C,rfl⟩)))))
 rintro Y V ⟨A,hb2,I,an⟩
 refine fx 16 an (cb rfl (fun j=> ?_) (fun j=> ?_))
 refine U (fun _ i=>(aj (((i _ _ (rt (br (tr ?_))))))))
 exact f1 rfl rfl (⟨by rw [BW (of_decide_eq_true (hb2.symm.trans j))]; rfl,I⟩)
 refine az (bn (tn (q _ _ (U (fun _ i=>(aj (((i _ _ ?_)))))))))
 refine rt (f1 rfl rfl ?_)
 have h9:=of_decide_eq_false (hb.symm.trans a)
 have h16:=of_decide_eq_false (hb2.symm.trans j)
 exact ⟨by rw [LS hsp h9 (fun h=>h16 (.inl h)) (fun h=>h16 (.inr h))]; rfl,I⟩
theorem tw (B:Nat) (H:ea) (k ln:Nat) (seen:List Tx) (vh:Value) (key:Tx) (w:World) (a:eI w B H k ln seen vh) (hsl:seen.length≤70000):
 aV Tryz.prog 42 (List.toArray [aI H.rb,str key]) w (fun v w'=>v= .bool (decide (key∈seen))∧w'=w):=by
 obtain ⟨ai,al,rfl⟩:=b0 a.hd
 refine enter Tryz.func42 rfl Tryz.ntmps42 rfl ?_
 refine U (fun _ G=>(aj (((G _ _ (sq (fun _ I=>U (fun _ J=> ?_))))))))
 refine aj (((J _ _ (aA (lp (fun A q wI=> ∃ (i:Nat),(i≤seen.length)∧(∀ j,j < i→seen.getD j []≠key)∧(wI=w)∧(q 0=aI H.rb)∧(q 1=str key)∧(q 5=ae i)∧(seen.length - i=A)) _ ⟨0,(by omega),((fun j C=>by omega)),rfl,rfl,rfl,rfl,rfl⟩ ?_)))))
 rintro A q wI ⟨i,hi,E,Z,ab,ac,ah,rfl⟩
 refine fx 0 ab (fx 1 ac (fx 5 ah ?_))
 subst Z
 refine sq (fun _ M=>U (fun _ O=>(ag (ae i) (ag (aI H.rb) (p (nc rfl) (p (fa kX rfl) (p (ld gi rfl ((aR a.cells).trans rfl)) ?_)))))))
 refine p (bg dy rfl rfl) (p (lt rfl rfl) (au ((O _ _ (cd rfl (fun aa=> ?_) (fun aa=> ?_))))))
 refine az (tn (M _ _ (sq (fun _ s=>aA (U (fun _ V=>(ag (aI H.rb) (p (nc rfl) ?_))))))))
 refine p (fa kX rfl) (p (ld gi rfl ((aR a.cells).trans rfl)) (ag (ae i) (p (aJ bC rfl rfl (by omega) (aw.ok ((aM a.hd).2) (bo (by omega)))) (p (ld bz rfl (bp.get (i:=i) (aM a.hd).2 (by omega))) (ag (str key) (p (cM rfl rfl) (nl ?_)))))))
 refine tn (V _ _ (cd rfl (fun hc23=> ?_) (fun hc23=> ?_)))
 refine U (fun _ Y=>(aj (((Y _ _ (rt (br (tr ?_))))))))
 exact tr (br (tr (f1 rfl rfl (⟨by rw [decide_eq_true (show key∈seen from hc23 ▸ c5 (by omega))]; rfl,rfl⟩))))
 refine az (bn (tn (s _ _ (rg rfl (ag (ae i) (p (ad rfl rfl (bu (by omega))) (p ak (nl ?_))))))))
 exact tn (⟨_,by omega,i+1,(by omega),((fun j C=>by rcases Nat.lt_or_ge j i with h | h <;> first | exact E j h | (rw [show j=i by omega]; exact hc23))),rfl,rfl,rfl,rfl,rfl⟩)
 refine ext (te _ (te _ (be (tn (I _ _ (U (fun _ s=>(p ak ?_))))))))
 exact au ((s _ _ (rt (f1 rfl rfl (⟨by rw [decide_eq_false (show ¬key∈seen from fun h=>by obtain ⟨j,C,e⟩:=k5 [] h; exact E j (by omega) e)]; rfl,rfl⟩)))))
theorem ti (B B0 fb:Nat) (F:aH) (V:fj) (x:Nat) (w:World) (J:dA w B B0 fb F V) (aG:F.a3.length≤70000):
 aV Tryz.prog 44 (List.toArray [aI fb,bA x]) w (fun v w'=>v= .tuple #[.agg (jw ((dK F.a3 x).getD jR)).toArray,.bool (dK F.a3 x).isSome]∧Wk w w'):=by
 obtain ⟨am,gj,O⟩:=b0 J.dp
 refine enter Tryz.func44 rfl Tryz.ntmps44 rfl ?_
 refine U (fun _ Y=>(e (al mQ fun an w4 aF A I=> ?_)))
 have hF:=J.wk A.md
 have C:Hb.aE w4.heap fb 11=some (.slice am F.a3.length gj):=by rw [← O]; exact (aR hF.cells).trans rfl
 have ho11:=hF.dp
 rw [O] at ho11
 refine aj (((Y _ _ (sq (fun _ Z=>U (fun _ aa=>(p ak (nl ?_))))))))
 refine tn (aa _ _ (aA (lp (fun G a wI=> ∃ (i:Nat),(i≤F.a3.length)∧(∀ j,j < i→(F.a3.getD j jR).flag≠x)∧(wI=w4)∧(a 0=aI fb)∧(a 1=bA x)∧(a 4=aI an)∧(a 6=ae i)∧(F.a3.length - i=G)) _ ⟨0,(by omega),((fun j q=>by omega)),rfl,rfl,rfl,rfl,rfl,rfl⟩ ?_)))
 rintro G a wI ⟨i,hi,E,aq,ay,aB,aC,aD,rfl⟩
 refine fx 0 ay (fx 1 aB (fx 4 aC (fx 6 aD ?_)))
 subst aq
 refine sq (fun _ ab=>U (fun _ ac=>(ag (ae i) (ag (aI fb) (p (nc rfl) (p (fa kW rfl) (p (ld lC rfl (C)) ?_)))))))
 refine p (bg uP rfl rfl) (p (lt rfl rfl) (au ((ac _ _ (cd rfl (fun ax=> ?_) (fun ax=> ?_))))))
 refine az (tn (ab _ _ (sq (fun _ s=>aA (U (fun _ ah=>(ag (aI fb) (p (nc rfl) ?_))))))))
 refine p (fa kW rfl) (p (ld lC rfl (C)) (ag (ae i) (p (aJ p5 rfl rfl (by omega) (aw.ok ((aM ho11).2) (qp (by omega)))) (p (fa s5 rfl) (p (ld bU rfl (fS (f:=jw) (m:=5) (fun _=>rfl) (aM ho11).2 (n7 (by omega :i < F.a3.length)) 0 (by decide))) (ag (bA x) (p (bd rfl rfl) ?_)))))))
 refine au ((ah _ _ (cd rfl (fun M=> ?_) (fun M=> ?_))))
 refine U (fun _ ai=>(ag (aI fb) (p (nc rfl) (p (fa kW rfl) (p (ld lC rfl (C)) (ag (ae i) (p (aJ p5 rfl rfl (by omega) (aw.ok ((aM ho11).2) (qp (by omega)))) ?_)))))))
 refine p (dm mX rfl (rfl) (fS (f:=jw) (m:=5) (fun _=>rfl) (aM ho11).2 (n7 (by omega :i < F.a3.length)))) (e (bY lL rfl rfl rfl rfl (I) (by simp) fun aK ar ao=>aj (((ai _ _ (rt (br (tr ?_))))))))
 exact tr (br (tr (dP rfl (c8 (cs:=jw (F.a3.getD i jR)) rfl mX rfl (fun j q=>ao.cW j)) dF (⟨by rw [Gp E (n7 (by omega)) (by omega)]; rfl,A.md.trans' ar (fun k hk h=>by omega)⟩))))
 refine az (bn (tn (s _ _ (rg rfl (ag (ae i) (p (ad rfl rfl (bu (by omega))) (p ak (nl ?_))))))))
 exact tn (⟨_,by omega,i+1,(by omega),((fun j q=>by rcases Nat.lt_or_ge j i with h | h <;> first | exact E j h | (rw [show j=i by omega]; exact fun h2=>M (by rw [h2])))),rfl,rfl,rfl,rfl,rfl,rfl⟩)
 refine ext (te _ (te _ (be (tn (Z _ _ (U (fun _ s=>(p (bV (ps:= []) (L:= [.int .i64 0,.int .i64 0,.bool false,.int .i64 0,.int .i64 0]) Bs rfl (rfl)) ?_))))))))
 exact e (bY lL rfl rfl rfl rfl (I) (by simp) fun aL av ap=>aj (((s _ _ (rt (dP rfl (c8 (cs:=jw jR) rfl mX rfl (fun j q=>ap.cW j)) dF (⟨by rw [Gr (fun j q=>E j (by omega))]; rfl,A.md.trans' av (fun k hk h=>by omega)⟩)))))))
theorem GY (B B0 fb:Nat) (F:aH) (V:fj) (x:Nat) (w:World) (hF:dA w B B0 fb F V) (an:F.a3.length≤70000):
 aV Tryz.prog 107 (List.toArray [aI fb,bA x]) w (fun v w'=>v= .bool (dx F x)∧Wk w w'):=by
 have hsp5:=hF.ee
 refine enter Tryz.func107 rfl Tryz.ntmps107 rfl ?_
 refine U (fun _ J=>(aj (((J _ _ (sq (fun _ M=>U (fun _ O=> ?_))))))))
 refine aj (((O _ _ (aA (lp (fun A a wI=> ∃ (i:Nat),(i≤5)∧(∀ j,j < i→F.sp.getD j 0≠x)∧(wI=w)∧(a 0=aI fb)∧(a 1=bA x)∧(a 5=ae i)∧(5 - i=A)) _ ⟨0,(by omega),((fun j G=>by omega)),rfl,rfl,rfl,rfl,rfl⟩ ?_)))))
 rintro A a wI ⟨i,hi,I,ab,ao,ap,aq,rfl⟩
 refine fx 0 ao (fx 1 ap (fx 5 aq ?_))
 subst ab
 refine sq (fun _ Y=>U (fun _ Z=>(ag (ae i) (p (lt rfl rfl) (au ((Z _ _ (cd rfl (fun am=> ?_) (fun am=> ?_)))))))))
 refine az (tn (Y _ _ (sq (fun _ q=>aA (U (fun _ s=>(ag (aI fb) (ag (ae i) ?_))))))))
 refine p (nc rfl) (p (fa qg rfl) (p (il pB rfl rfl (by omega)) (p (ld bU rfl ((aR hF.cells).trans (zl (i:=i) (by omega)))) (ag (bA x) (p (bd rfl rfl) (au ((s _ _ ?_))))))))
 refine cd rfl (fun E=> ?_) (fun E=> ?_)
 refine U (fun _ aa=>(aj (((aa _ _ (rt (br (tr ?_))))))))
 exact tr (br (tr (f1 rfl rfl (⟨by rw [x4 (show x∈F.sp from by obtain rfl :F.sp.getD i 0=x:=(by omega); exact c5 (by omega))]; rfl,Md.refl _ _⟩))))
 refine az (bn (tn (q _ _ (rg rfl (ag (ae i) (p (ad rfl rfl (bu (by omega))) (p ak (nl ?_))))))))
 exact tn (⟨_,by omega,i+1,(by omega),((fun j G=>by rcases Nat.lt_or_ge j i with h | h <;> first | exact I j h | (rw [show j=i by omega]; exact fun h2=>E (by rw [h2])))),rfl,rfl,rfl,rfl,rfl⟩)
 refine ext (te _ (te _ (be (tn (M _ _ (U (fun _ q=>(ag (aI fb) ?_))))))))
 refine ag (bA x) (e (cl r6 (ti B B0 fb F V x wI hF an) rfl fun aw w23 ai=> ?_))
 obtain ⟨rfl,C⟩:=ai
 have hz23:=C.size
 refine p mv (p (xt rfl rfl) (p (xt rfl rfl) (e (al mQ fun ar w6 hb6 ah hB6=>e (bY lL rfl rfl rfl rfl (hB6) (by simp) fun ax ac av=>aj (((q _ _ ?_))))))))
 refine U (fun _ s=>(p mv (aj (((s _ _ (rt (f1 rfl rfl ?_))))))))
 exact ⟨by rw [x5 (z9 (fun j G=>I j (by omega)))]; rfl,(C.trans ah.md).trans' ac (fun k hk h=>by omega)⟩
theorem tj (s:Tx) (w:World) (hs:s.length≤1048576):
 aV Tryz.prog 141 (List.toArray [str s]) w (fun v w'=>v=ae (eZ s)∧Wk w w'):=by
 refine enter Tryz.func141 rfl Tryz.ntmps141 rfl ?_
 refine U (fun _ E=>(aj (((E _ _ (U (fun _ G=>(ag (str s) ?_))))))))
 refine e (cl nY (oJ s w hs) rfl fun M w5 hR5=> ?_)
 obtain ⟨rfl,hE5⟩:=hR5
 refine aj (((G _ _ (sq (fun _ I=>U (fun _ A=>(ag (str s) (p (bK u9 rfl rfl) ?_))))))))
 refine p (bd rfl rfl) (p mv (gs (t:=9) rfl (fun hg9=> ?_) (fun hg9=> ?_)))
 have hnil:=List.eq_nil_of_length_eq_zero (show s.length=0 by omega)
 refine sk rfl rfl rfl rfl (sk rfl rfl rfl rfl (p (bc rfl) (au ((A _ _ (ct rfl (U (fun _ a=> ?_))))))))
 exact aj (((a _ _ (rt (tr (f1 rfl rfl (⟨by rw [qa (.inl hnil)]; rfl,hE5⟩)))))))
 have C:s≠[]:=fun h=>hg9 (by rw [h]; rfl)
 refine pg rfl rfl rfl mv (pg rfl rfl rfl (no rfl) (p (a6 rfl) (au ((A _ _ (cb rfl (fun i=> ?_) (fun i=> ?_)))))))
 refine U (fun _ a=>(aj (((a _ _ (rt (tr (f1 rfl rfl ?_))))))))
 have hb0:eh s=false :=by simpa using i
 exact ⟨by rw [qa (.inr hb0)]; rfl,hE5⟩
 refine az (tn (I _ _ (sq (fun _ a=>U (fun _ J=>(ag (str s) (p (bK u9 rfl rfl) (p (gt rfl rfl) ?_))))))))
 refine au ((J _ _ (cd rfl (fun hc15=> ?_) (fun hc15=> ?_))))
 refine U (fun _ j=>(aj (((j _ _ (rt (tr (f1 rfl rfl ?_))))))))
 have q:eh s=true :=by simpa using i
 exact ⟨by rw [yG C q (by omega)]; rfl,hE5⟩
 refine az (tn (a _ _ (U (fun _ j=>(aj (((j _ _ (rt ?_)))))))))
 refine f1 rfl rfl ?_
 have q:eh s=true :=by simpa using i
 exact ⟨by rw [yH C q (by omega)]; rfl,hE5⟩
theorem tq (s:Tx) (C:Bool) (w:World) (hs:s.length≤1048576):
 aV Tryz.prog 125 (List.toArray [str s,.bool C]) w (fun v w'=>(∃ (a:Tx) (e:Nat),v= .tuple #[str a,ae e]∧((dq C s= .ok a∧e=0)∨(dq C s= .error e∧e≠0)))∧Wk w w'):=by
 have hwl:=mP s
 refine enter Tryz.func125 rfl Tryz.ntmps125 rfl ?_
 refine U (fun _ ab=>(p ak (aj (((ab _ _ (sq (fun _ Z=>sq (fun _ aa=> ?_)))))))))
 refine rg rfl (ag (.bool C) (ag (.bool C) (gb (t:=11) rfl (fun hg11=> ?_) (fun hg11=> ?_))))
 refine pg rfl rfl rfl (aC (str s) rfl) (pg rfl rfl rfl (cM rfl rfl) (p (bc rfl) (au ((aa _ _ (cd rfl (fun Y=> ?_) (fun Y=> ?_)))))))
 refine U (fun _ E=>(p ak (aj (((E _ _ (rt (tr ?_))))))))
 exact f2 rfl rfl rfl (⟨⟨[],0,rfl,.inl ⟨by rw [hg11]; exact Az Y,rfl⟩⟩,Md.refl _ _⟩)
 have j:dq C s=dq false s:=by rw [hg11]; exact uk Y
 refine az (tn (Z _ _ (U (fun _ E=>(ag (str s) (e (cl pI (qS s w hs) rfl fun ac w17 O=> ?_)))))))
 obtain ⟨rfl,hE17⟩:=O
 refine p mv (p (xt rfl rfl) (p (xt rfl rfl) (p (xt rfl rfl) (p (xt rfl rfl) (p ak (p ak (p ak ?_)))))))
 refine aj (((E _ _ (sq (fun _ G=>U (fun _ I=>(p mv (p (bH rfl rfl) ?_))))))))
 refine au ((I _ _ (cd rfl (fun hc23=> ?_) (fun hc23=> ?_))))
 refine U (fun _ q=>(p mv (p ak (aj (((q _ _ (rt ?_))))))))
 exact tr (f2 rfl rfl rfl (⟨⟨[],_,rfl,.inr ⟨j.trans (ug (by omega)),by omega⟩⟩,hE17⟩))
 refine az (tn (G _ _ (sq (fun _ q=>U (fun _ J=>(p mv (au ((J _ _ ?_)))))))))
 refine cb rfl (fun i=> ?_) (fun i=> ?_)
 refine U (fun _ A=>(p ak (aj (((A _ _ (rt (tr ?_))))))))
 exact f2 rfl rfl rfl (⟨⟨[],114,rfl,.inr ⟨j.trans (uh (by omega) i),by decide⟩⟩,hE17⟩)
 refine az (tn (q _ _ (U (fun _ A=>(p mv (p mv (e (cl rY (tj (aW s).1 w17 (by omega)) rfl fun ah w28 V=> ?_))))))))
 obtain ⟨rfl,M⟩:=V
 refine p ak (aj (((A _ _ (rt (f2 rfl rfl rfl ?_))))))
 refine ⟨⟨(aW s).1,eZ (aW s).1,rfl,?_⟩,hE17.trans M⟩
 by_cases h:eZ (aW s).1=0
 exact .inl ⟨j.trans (uj (by omega) i h),h⟩
 exact .inr ⟨j.trans (ui (by omega) i h),h⟩
 have j:dq C s=dq false s:=by rw [hg11]
 refine sk rfl rfl rfl rfl (sk rfl rfl rfl rfl (p (a6 rfl) (au ((aa _ _ (cf rfl (az (tn (Z _ _ ?_)))))))))
 refine U (fun _ E=>(ag (str s) (e (cl pI (qS s w hs) rfl fun ac w17 O=> ?_))))
 obtain ⟨rfl,hE17⟩:=O
 refine p mv (p (xt rfl rfl) (p (xt rfl rfl) (p (xt rfl rfl) (p (xt rfl rfl) (p ak (p ak (p ak ?_)))))))
 refine aj (((E _ _ (sq (fun _ G=>U (fun _ I=>(p mv (p (bH rfl rfl) ?_))))))))
 refine au ((I _ _ (cd rfl (fun hc23=> ?_) (fun hc23=> ?_))))
 refine U (fun _ q=>(p mv (p ak (aj (((q _ _ (rt ?_))))))))
 exact tr (f2 rfl rfl rfl (⟨⟨[],_,rfl,.inr ⟨j.trans (ug (by omega)),by omega⟩⟩,hE17⟩))
 refine az (tn (G _ _ (sq (fun _ q=>U (fun _ J=>(p mv (au ((J _ _ ?_)))))))))
 refine cb rfl (fun i=> ?_) (fun i=> ?_)
 refine U (fun _ A=>(p ak (aj (((A _ _ (rt (tr ?_))))))))
 exact f2 rfl rfl rfl (⟨⟨[],114,rfl,.inr ⟨j.trans (uh (by omega) i),by decide⟩⟩,hE17⟩)
 refine az (tn (q _ _ (U (fun _ A=>(p mv (p mv (e (cl rY (tj (aW s).1 w17 (by omega)) rfl fun ah w28 V=> ?_))))))))
 obtain ⟨rfl,M⟩:=V
 refine p ak (aj (((A _ _ (rt (f2 rfl rfl rfl ?_))))))
 refine ⟨⟨(aW s).1,eZ (aW s).1,rfl,?_⟩,hE17.trans M⟩
 by_cases h:eZ (aW s).1=0
 exact .inl ⟨j.trans (uj (by omega) i h),h⟩
 exact .inr ⟨j.trans (ui (by omega) i h),h⟩
theorem zj (B fb:Nat) (F:aH) (V:fj) (s:Tx) (w:World) (hF:jN w B 0 fb F V) (hk:F.kind=1∨F.kind=2∨F.kind=3) (ap:F.aliases.length≤70000) (hs:s.length≤1048576):
 aV Tryz.prog 85 (List.toArray [aI fb,str s]) w (fun v w'=>(∃ (a:Value) (e:Nat),v= .tuple #[a,ae e]∧a.oneCell'=true∧((∃ l,e=0∧ec F.kind F.aliases s= .ok l∧Tg w' 0 3 l.length a (l.map bA))∨(e≠0∧ec F.kind F.aliases s= .error e)))∧Wk w w'):=by
 obtain ⟨ab,gD,J⟩:=b0 hF.dI
 have ho10:=hF.dI
 rw [J] at ho10
 have hc10:Hb.aE w.heap fb 10=some (.slice ab F.aliases.length gD):=by rw [← J]; exact (aR hF.cells).trans rfl
 refine enter Tryz.func85 rfl Tryz.ntmps85 rfl ?_
 refine U (fun _ M=>(p ak (aj (((M _ _ (sq (fun _ O=>sq (fun _ Y=> ?_)))))))))
 refine rg rfl (ag (aI fb) (p (nc rfl) (p (fa oh rfl) (p (ld ph rfl (hc10)) (p (bg BG rfl rfl) (p (bd rfl rfl) (nl ?_)))))))
 refine tn (Y _ _ (cd rfl (fun A=> ?_) (fun A=> ?_)))
 have i:F.aliases= []:=List.eq_nil_of_length_eq_zero (by omega)
 refine U (fun _ q=>(ag (aI fb) (p (nc rfl) (p (fa nf rfl) (p (ld bU rfl ((aR hF.cells).trans rfl)) (ag (str s) (e (cl wx (AR F.kind s _ hk hs) rfl fun aq w19 ac=> ?_))))))))
 obtain ⟨⟨ao,rfl,I⟩,hE19⟩:=ac
 refine p (xt rfl rfl) (p (xt rfl rfl) (p ak (aj (((q _ _ (rt (tr ?_))))))))
 refine f2 rfl rfl rfl ?_
 obtain ⟨aa,c0,rfl⟩:=b0 I
 refine ⟨⟨_,_,rfl,rfl,?_⟩,hE19⟩
 by_cases h:(cU F.kind s).2=0
 exact .inl ⟨_,h,by rw [qd i]; exact qn h,(Tg.fZ I).mono (Nat.zero_le _)⟩
 exact .inr ⟨h,by rw [qd i]; exact qm h⟩
 have i:F.aliases≠[]:=fun h=>by rw [h] at A; exact A rfl
 refine az (tn (O _ _ (U (fun _ q=>(ag (str s) (ag (aI fb) (p (nc rfl) (p (fa oh rfl) ?_))))))))
 refine p (ld ph rfl (hc10)) (p (bg BG rfl rfl) (e (cl mu (mK s (F.aliases.length:Nat) _ hs (by omega)) rfl fun ar w29 ah=> ?_)))
 obtain ⟨rfl,hE29⟩:=ah
 refine p mv (p (xt rfl rfl) (p (xt rfl rfl) (p ak (aj (((q _ _ (sq (fun _ Z=> ?_)))))))))
 refine U (fun _ E=>(p mv (p (bH rfl rfl) (p mv (gs (t:=34) rfl (fun am=> ?_) (fun am=> ?_))))))
 refine sk rfl rfl rfl rfl (sk rfl rfl rfl rfl (p (bc rfl) (au ((E _ _ (ct rfl (U (fun _ j=> ?_))))))))
 exact p ak (aj (((j _ _ (rt (tr (f2 rfl rfl rfl (⟨⟨.slice none 0 0,13,rfl,rfl,.inr ⟨by decide,yN i (k8 (by omega)).1⟩⟩,hE29⟩))))))))
 refine pg rfl rfl rfl mv (pg rfl rfl rfl (bd rfl rfl) (p (a6 rfl) (au ((E _ _ (cd rfl (fun ai=> ?_) (fun ai=> ?_)))))))
 refine U (fun _ j=>(p ak (aj (((j _ _ (rt (tr ?_))))))))
 refine f2 rfl rfl rfl ?_
 have hnx:=j0 (by omega :(cH s (F.aliases.length:Nat)).2=0)
 rw [show (cH s (F.aliases.length:Nat)).1=0 from by omega] at hnx
 exact ⟨⟨.slice none 0 0,13,rfl,rfl,.inr ⟨by decide,yQ i hnx⟩⟩,hE29⟩
 refine az (tn (Z _ _ (sq (fun _ j=> ?_))))
 have hnx:=j0 (by omega :(cH s (F.aliases.length:Nat)).2=0)
 have hnle:=lZ s (F.aliases.length:Nat) (by omega)
 have an:(cH s (F.aliases.length:Nat)).1 - 1 < F.aliases.length:=by omega
 obtain ⟨av,C,G⟩:=eV.get (hF.al.wk hE29) an
 refine rg rfl (ag (aI fb) (p (nc rfl) (p (fa oh rfl) (p (ld ph rfl (Wk.aE hE29 hc10)) (p mv (p (cI (((cH s (F.aliases.length:Nat)).1 - 1:Nat):Int) rfl rfl (aQ (by omega) (by omega))) (p (aJ Ge rfl rfl (by omega) (aw.ok ((aM (aG ho10 hE29)).2) (fun h=>by rw [h] at C; cases C))) ?_)))))))
 refine p (ld mZ rfl (aw.gP (aM (aG ho10 hE29)).2 C)) (p ak (aj (((j _ _ (rt (f2 rfl rfl rfl ?_)))))))
 obtain ⟨aa,c0,rfl⟩:=G.slice
 exact ⟨⟨_,0,rfl,rfl,.inl ⟨_,rfl,yP i hnx (by omega),G⟩⟩,hE29⟩
theorem zk (B:Nat) (H:ea) (F:aH) (V:fj) (k ln:Nat) (seen:List Tx) (vh:Value) (s:Tx) (w:World) (hF:dA w B 0 H.fb F V) (A:eI w B H k ln seen vh) (hk:F.kind=1∨F.kind=2∨F.kind=3) (aa:F.a3.length≤70000) (hs:s.length≤1048576):
 aV Tryz.prog 79 (List.toArray [aI H.rb,str s]) w (fun v w'=>(∃ x e:Nat,v= .tuple #[bA x,ae e]∧((eE F s= .ok x∧x≠0∧e=0)∨(eE F s= .error e∧e≠0)))∧Wk w w'):=by
 refine enter Tryz.func79 rfl Tryz.ntmps79 rfl ?_
 refine U (fun _ C=>(p ak (aj (((C _ _ (U (fun _ E=> ?_))))))))
 refine ag (aI H.rb) (p (nc rfl) (p (fa ik rfl) (p (ld ib rfl ((aR A.cells).trans rfl)) (p (nc rfl) (p (fa nf rfl) (p (ld bU rfl ((aR hF.cells).trans rfl)) (ag (str s) ?_)))))))
 refine e (cl C1 (Kk F.kind s w hk hs) rfl fun ab w18 O=> ?_)
 obtain ⟨rfl,a⟩:=O
 refine p mv (p (xt rfl rfl) (p (xt rfl rfl) (p ak (aj (((E _ _ (sq (fun _ G=> ?_)))))))))
 refine U (fun _ I=>(p mv (p (bH rfl rfl) (au ((I _ _ (cd rfl (fun Z=> ?_) (fun Z=> ?_))))))))
 refine U (fun _ i=>(p mv (p ak (aj (((i _ _ (rt ?_))))))))
 exact tr (f2 rfl rfl rfl (⟨⟨0,(eD F.kind s).2,rfl,.inr ⟨zd (by omega),by omega⟩⟩,a⟩))
 refine az (tn (G _ _ (U (fun _ i=>(ag (aI H.rb) (p (nc rfl) (p (fa ik rfl) (p (ld ib rfl ((aR (A.wk a).cells).trans rfl)) ?_))))))))
 refine p mv (e (cl C2 (GY B 0 H.fb F V (eD F.kind s).1 w18 (hF.wk a) aa) rfl fun ac w29 Y=> ?_))
 obtain ⟨rfl,hE29⟩:=Y
 refine aj (((i _ _ (sq (fun _ J=>U (fun _ M=>(p mv (nl ?_))))))))
 refine tn (M _ _ (cb rfl (fun q=> ?_) (fun q=> ?_)))
 refine U (fun _ j=>(p ak (aj (((j _ _ (rt (tr ?_))))))))
 exact f2 rfl rfl rfl (⟨⟨0,115,rfl,.inr ⟨ze (by omega) q,by decide⟩⟩,a.trans hE29⟩)
 refine az (tn (J _ _ (U (fun _ j=>(p mv (p ak (p ak (nl ?_))))))))
 exact tn (j _ _ (rt (f2 rfl rfl rfl (⟨⟨_,0,rfl,.inl ⟨zf (by omega) q,y6 (by omega),rfl⟩⟩,a.trans hE29⟩))))
theorem Hg (w1:World) (H:ea) (F:aH) (k ln:Nat) (seen r:List Tx) (ar:Nat) (Y:Option Addr) (Z:Nat) (w:World) (aG:iU w1 w H F k ln seen) (hT:Tg w ar 9 r.length (.slice Y r.length Z) (r.map str)) (hr:r.length=2) (hrl:∀ x∈r,x.length≤70000):
 aV Tryz.prog 80 (List.toArray [aI H.rb,.slice Y r.length Z]) w (dS w1 H seen (gR F seen (H.rows.drop k) ln r)):=by
 obtain ⟨V,vh,hF,a,hB,s,hkl⟩:=aG
 have hTs:=hT.bF
 have hlo:=a.lo
 have hbl:=hB.len
 obtain ⟨aQ,aS,rfl⟩:=b0 a.hd
 have hsl:=hB.sl
 refine enter Tryz.func80 rfl Tryz.ntmps80 rfl ?_
 refine U (fun _ av=>(aj (((av _ _ (sq (fun _ ax=>U (fun _ ay=> ?_))))))))
 refine aj (((ay _ _ (aA (lp (fun aq ab wI=> ∃ (i:Nat),(i≤seen.length)∧(∀ j,j < i→seen.getD j []∉g9)∧(wI=w)∧(ab 0=aI H.rb)∧(ab 1= .slice Y r.length Z)∧(ab 5=ae i)∧(seen.length - i=aq)) _ ⟨0,(by omega),((fun j M=>by omega)),rfl,rfl,rfl,rfl,rfl⟩ ?_)))))
 rintro aq ab wI ⟨i,hi,O,aE,aL,aN,aO,rfl⟩
 refine fx 0 aL (fx 1 aN (fx 5 aO ?_))
 subst aE
 refine sq (fun _ aB=>U (fun _ aD=>(ag (ae i) (ag (aI H.rb) (p (nc rfl) (p (fa kX rfl) (p (ld gi rfl ((aR a.cells).trans rfl)) ?_)))))))
 refine p (bg dy rfl rfl) (p (lt rfl rfl) (au ((aD _ _ (cd rfl (fun aK=> ?_) (fun aK=> ?_))))))
 refine az (tn (aB _ _ (sq (fun _ G=>aA (U (fun _ ai=>(ag (aI H.rb) (p (nc rfl) ?_))))))))
 refine p (fa kX rfl) (p (ld gi rfl ((aR a.cells).trans rfl)) (ag (ae i) (p (aJ bC rfl rfl (by omega) (aw.ok ((aM a.hd).2) (bo (by omega)))) (p (ld bz rfl (bp.get (i:=i) (aM a.hd).2 (by omega))) (e (cl r9 (tv (seen.getD i []) wI) rfl fun aT w23 aF=> ?_))))))
 obtain ⟨rfl,aP⟩:=aF
 subst aP
 refine aj (((ai _ _ (U (fun _ E=>(p mv (p (ge rfl rfl) (p mv ?_))))))))
 refine gs (t:=26) rfl (fun an=> ?_) (fun an=> ?_)
 refine sk rfl rfl rfl rfl (sk rfl rfl rfl rfl (sk rfl rfl rfl rfl (sk rfl rfl rfl rfl (sk rfl rfl rfl rfl (sk rfl rfl rfl rfl (sk rfl rfl rfl rfl (sk rfl rfl rfl rfl ?_)))))))
 refine p (bc rfl) (p mv (sk rfl rfl rfl rfl (sk rfl rfl rfl rfl (sk rfl rfl rfl rfl (sk rfl rfl rfl rfl (sk rfl rfl rfl rfl (sk rfl rfl rfl rfl ?_)))))))
 refine sk rfl rfl rfl rfl (sk rfl rfl rfl rfl (p (bc rfl) (p mv (sk rfl rfl rfl rfl (sk rfl rfl rfl rfl (sk rfl rfl rfl rfl (sk rfl rfl rfl rfl ?_)))))))
 refine sk rfl rfl rfl rfl (sk rfl rfl rfl rfl (sk rfl rfl rfl rfl (sk rfl rfl rfl rfl (p (bc rfl) (au ((E _ _ (ct rfl ?_))))))))
 refine U (fun _ q=>(aj (((q _ _ (rt (br (tr ?_))))))))
 exact tr (br (tr (f1 rfl rfl (⟨.inr ⟨ln,113,ow (k:=seen.getD i []) (qL (.inl (nA.1 an))) (c5 (by omega)),by decide,rfl,a.bM⟩,s⟩))))
 refine pg rfl rfl rfl (aC (aI H.rb) rfl) (pg rfl rfl rfl (nc rfl) (pg rfl rfl rfl (fa kX rfl) (pg rfl rfl rfl (ld gi rfl ((aR a.cells).trans rfl)) (pg rfl rfl rfl (aC (ae i) rfl) (pg rfl rfl rfl (aJ bC rfl rfl (by omega) (aw.ok ((aM a.hd).2) (bo (by omega)))) (pg rfl rfl rfl (ld bz rfl (bp.get (i:=i) (aM a.hd).2 (by omega))) (pg rfl rfl rfl (cM rfl rfl) ?_)))))))
 refine p (a6 rfl) (p mv (gs (t:=36) rfl (fun ao=> ?_) (fun ao=> ?_)))
 refine sk rfl rfl rfl rfl (sk rfl rfl rfl rfl (sk rfl rfl rfl rfl (sk rfl rfl rfl rfl (sk rfl rfl rfl rfl (sk rfl rfl rfl rfl (sk rfl rfl rfl rfl (sk rfl rfl rfl rfl ?_)))))))
 refine p (bc rfl) (p mv (sk rfl rfl rfl rfl (sk rfl rfl rfl rfl (sk rfl rfl rfl rfl (sk rfl rfl rfl rfl (sk rfl rfl rfl rfl (sk rfl rfl rfl rfl ?_)))))))
 refine sk rfl rfl rfl rfl (sk rfl rfl rfl rfl (p (bc rfl) (au ((E _ _ (ct rfl (U (fun _ q=> ?_))))))))
 refine aj (((q _ _ (rt (br (tr (tr (br ?_))))))))
 exact tr (f1 rfl rfl (⟨.inr ⟨ln,113,ow (k:=seen.getD i []) (qL (.inr (.inl ao))) (c5 (by omega)),by decide,rfl,a.bM⟩,s⟩))
 refine pg rfl rfl rfl (aC (aI H.rb) rfl) (pg rfl rfl rfl (nc rfl) (pg rfl rfl rfl (fa kX rfl) (pg rfl rfl rfl (ld gi rfl ((aR a.cells).trans rfl)) (pg rfl rfl rfl (aC (ae i) rfl) (pg rfl rfl rfl (aJ bC rfl rfl (by omega) (aw.ok ((aM a.hd).2) (bo (by omega)))) (pg rfl rfl rfl (ld bz rfl (bp.get (i:=i) (aM a.hd).2 (by omega))) (pg rfl rfl rfl (cM rfl rfl) ?_)))))))
 refine p (a6 rfl) (p mv (gs (t:=46) rfl (fun ap=> ?_) (fun ap=> ?_)))
 refine sk rfl rfl rfl rfl (sk rfl rfl rfl rfl (sk rfl rfl rfl rfl (sk rfl rfl rfl rfl (sk rfl rfl rfl rfl (sk rfl rfl rfl rfl (sk rfl rfl rfl rfl (sk rfl rfl rfl rfl ?_)))))))
 refine p (bc rfl) (au ((E _ _ (ct rfl (U (fun _ q=>(p ak (nl ?_))))))))
 refine tn (q _ _ (rt (br (tr (tr (br (tr (f1 rfl rfl ?_))))))))
 exact ⟨.inr ⟨ln,113,ow (k:=seen.getD i []) (qL (.inr (.inr (.inl ap)))) (c5 (by omega)),by decide,rfl,a.bM⟩,s⟩
 refine pg rfl rfl rfl (aC (aI H.rb) rfl) (pg rfl rfl rfl (nc rfl) (pg rfl rfl rfl (fa kX rfl) (pg rfl rfl rfl (ld gi rfl ((aR a.cells).trans rfl)) (pg rfl rfl rfl (aC (ae i) rfl) (pg rfl rfl rfl (aJ bC rfl rfl (by omega) (aw.ok ((aM a.hd).2) (bo (by omega)))) (pg rfl rfl rfl (ld bz rfl (bp.get (i:=i) (aM a.hd).2 (by omega))) (pg rfl rfl rfl (cM rfl rfl) ?_)))))))
 refine p (a6 rfl) (au ((E _ _ (cd rfl (fun al=> ?_) (fun al=> ?_)))))
 refine U (fun _ q=>(aj (((q _ _ (rt (br (tr ?_))))))))
 exact tr (br (tr (f1 rfl rfl (⟨.inr ⟨ln,113,ow (k:=seen.getD i []) (qL (.inr (.inr (.inr al)))) (c5 (by omega)),by decide,rfl,a.bM⟩,s⟩))))
 refine az (bn (tn (G _ _ (rg rfl (ag (ae i) (p (ad rfl rfl (bu (by omega))) (p ak (nl ?_))))))))
 exact tn (⟨_,by omega,i+1,(by omega),((fun j M=>by rcases Nat.lt_or_ge j i with h | h <;> first | exact O j h | (rw [show j=i by omega]; exact Jp (fun h=>an (nA.2 h)) ao ap al))),rfl,rfl,rfl,rfl,rfl⟩)
 refine ext (te _ (te _ (be (tn (ax _ _ (sq (fun _ G=>U (fun _ ai=> ?_))))))))
 refine ag (.slice Y r.length Z) (p (aJ bC rfl rfl (by omega) (aw.ok (hTs.2) (bo (by omega)))) (p (ld bz rfl (bp.get (i:=1) hTs.2 (by omega))) (au ((ai _ _ (aA (U (fun _ E=> ?_))))))))
 refine p (cM rfl rfl) (aj (((E _ _ (cd rfl (fun J=> ?_) (fun J=> ?_))))))
 refine rg rfl (ag (aI H.rb) (p (nc rfl) (p (fa ik rfl) (p (ld ib rfl ((aR a.cells).trans rfl)) (p (nc rfl) (p (fa nf rfl) (e (cj fW rfl rfl (v:=ae 1) rfl hF.cells (by show _ < 13; omega) fun w9 hM9 I=> ?_))))))))
 refine nl (bn (tn (G _ _ (U (fun _ q=>(aj (((q _ _ ?_)))))))))
 refine rt (f1 rfl rfl ?_)
 have C:ordered seen=true :=qM (fun j M=>O j (by omega))
 have hk:fT (r.getD 1 [])=1:=by unfold fT; rw [if_pos (show r.getD 1 []=mF from J)]
 have hF2:=hF.put (F':= {F with kind:=1}) hM9 I rfl rfl rfl rfl hF.ee
 have A:Wk w1 w9:=s.trans' hM9 (fun k hk h=>by have :=hF.lo; omega)
 exact ⟨.inl ⟨_,k,ln,(qz C (by omega)).trans (by rw [hk]),rfl,⟨V,_,hF2,a.fb hF hM9,⟨hB.len,hB.sl,hB.row,(by show 1=1∨1=2∨1=3; decide)⟩,A,hkl⟩⟩,A⟩
 refine U (fun _ q=>(p (cM rfl rfl) (aj (((q _ _ (cd rfl (fun aa=> ?_) (fun aa=> ?_))))))))
 refine rg rfl (ag (aI H.rb) (p (nc rfl) (p (fa ik rfl) (p (ld ib rfl ((aR a.cells).trans rfl)) (p (nc rfl) (p (fa nf rfl) (e (cj fW rfl rfl (v:=ae 2) rfl hF.cells (by show _ < 13; omega) fun w9 hM9 I=> ?_))))))))
 refine nl (bn (tn (G _ _ (U (fun _ ac=>(aj (((ac _ _ ?_)))))))))
 refine rt (f1 rfl rfl ?_)
 have C:ordered seen=true :=qM (fun j M=>O j (by omega))
 have hk:fT (r.getD 1 [])=2:=by unfold fT; rw [if_neg (show ¬r.getD 1 []=mF from J),if_pos (show r.getD 1 []=np from aa)]
 have hF2:=hF.put (F':= {F with kind:=2}) hM9 I rfl rfl rfl rfl hF.ee
 have A:Wk w1 w9:=s.trans' hM9 (fun k hk h=>by have :=hF.lo; omega)
 exact ⟨.inl ⟨_,k,ln,(qz C (by omega)).trans (by rw [hk]),rfl,⟨V,_,hF2,a.fb hF hM9,⟨hB.len,hB.sl,hB.row,(by show 2=1∨2=2∨2=3; decide)⟩,A,hkl⟩⟩,A⟩
 refine U (fun _ ac=>(p (cM rfl rfl) (aj (((ac _ _ (cd rfl (fun am=> ?_) (fun am=> ?_))))))))
 refine rg rfl (ag (aI H.rb) (p (nc rfl) (p (fa ik rfl) (p (ld ib rfl ((aR a.cells).trans rfl)) (p (nc rfl) (p (fa nf rfl) (e (cj fW rfl rfl (v:=ae 3) rfl hF.cells (by show _ < 13; omega) fun w9 hM9 I=> ?_))))))))
 refine nl (bn (tn (G _ _ (U (fun _ ah=>(aj (((ah _ _ ?_)))))))))
 refine rt (f1 rfl rfl ?_)
 have C:ordered seen=true :=qM (fun j M=>O j (by omega))
 have hk:fT (r.getD 1 [])=3:=by unfold fT; rw [if_neg (show ¬r.getD 1 []=mF from J),if_neg (show ¬r.getD 1 []=np from aa),if_pos (show r.getD 1 []=ox from am)]
 have hF2:=hF.put (F':= {F with kind:=3}) hM9 I rfl rfl rfl rfl hF.ee
 have A:Wk w1 w9:=s.trans' hM9 (fun k hk h=>by have :=hF.lo; omega)
 exact ⟨.inl ⟨_,k,ln,(qz C (by omega)).trans (by rw [hk]),rfl,⟨V,_,hF2,a.fb hF hM9,⟨hB.len,hB.sl,hB.row,(by show 3=1∨3=2∨3=3; decide)⟩,A,hkl⟩⟩,A⟩
 refine U (fun _ ah=>(aj (((ah _ _ (rt (br (tr ?_))))))))
 refine f1 rfl rfl ?_
 have C:ordered seen=true :=qM (fun j M=>O j (by omega))
 exact ⟨.inr ⟨ln,114,zS C (by unfold fT; rw [if_neg (show ¬r.getD 1 []=mF from J),if_neg (show ¬r.getD 1 []=np from aa),if_neg (show ¬r.getD 1 []=ox from am)]),by decide,rfl,a.bM⟩,s⟩
end Go.Hb.mV
end
section
set_option maxRecDepth 20000
set_option maxHeartbeats 1000000
namespace Go.Hb.rD
open Go.Hb.du
open Go.Proofs
open Go.Hb.kN Go.Hb.mV Go.Hb.ff Go.Hb.fM Go.Hb.iS Go.Hb.fV Go.Hb.iw Go.Hb.jM Go.Hb.kI Go.Hb.hY Go.Hb.mW Go.Hb.gB Go.Hb.o6 Go.Hb.kL Go.Hb.ly Go.Hb.o5 Go.Hb.mj Go.Hb.gn Go.Hb.fP
theorem Kr {kind ln:Nat} {al:List (List Nat)} {c:bW} {r:List Tx} {e:Nat} (h:r.length=4∨r.length=5) (h1:dq true (r.getD 2 [])= .error e):eB kind al c ln r= .error e:=by rw [jj h,h1]
theorem AW {kind ln:Nat} {al:List (List Nat)} {c:bW} {r:List Tx} {e:Nat} {st:Tx} (h:r.length=4∨r.length=5) (h1:dq true (r.getD 2 [])= .ok st) (h2:gN (aW (r.getD 3 []))= .error e):eB kind al c ln r= .error e:=by rw [jj h,h1]; simp only; rw [h2]
theorem AX {kind ln:Nat} {al:List (List Nat)} {c:bW} {r:List Tx} {e:Nat} {st ad:Tx} (h:r.length=4∨r.length=5) (h1:dq true (r.getD 2 [])= .ok st) (h2:gN (aW (r.getD 3 []))= .ok ad) (h3:g8 kind al c.kind (aW (r.getD 3 []))= .error e):eB kind al c ln r= .error e:=by rw [jj h,h1]; simp only; rw [h2]; simp only; rw [h3]
theorem AY {kind ln:Nat} {al:List (List Nat)} {c:bW} {r:List Tx} {e:Nat} {st ad:Tx} {nx:List Nat} (h:r.length=4∨r.length=5) (h1:dq true (r.getD 2 [])= .ok st) (h2:gN (aW (r.getD 3 []))= .ok ad) (h3:g8 kind al c.kind (aW (r.getD 3 []))= .ok nx) (h4:ig r= .error e):eB kind al c ln r= .error e:=by rw [jj h,h1]; simp only; rw [h2]; simp only; rw [h3]; simp only; rw [h4]
theorem Ks {kind ln:Nat} {al:List (List Nat)} {c:bW} {r:List Tx} {st ad cd:Tx} {nx:List Nat} (h:r.length=4∨r.length=5) (h1:dq true (r.getD 2 [])= .ok st) (h2:gN (aW (r.getD 3 []))= .ok ad) (h3:g8 kind al c.kind (aW (r.getD 3 []))= .ok nx) (h4:ig r= .ok cd):eB kind al c ln r= .ok ⟨c.kind,c.flag,c.dX,st,ad,cd,nx,ln⟩:=by rw [jj h,h1]; simp only; rw [h2]; simp only; rw [h3]; simp only; rw [h4]
def iW (xb:Nat) (F:aH) (c:bW) (ln:Nat) (r:List Tx) (w:World) (v:Value) (w':World):Prop :=Md (fun k=>k=xb) w w'∧∃ L:List Value,L.length=8∧L.all Value.oneCell'=true∧w'.heap[xb]? =some (.cells L.toArray 127 (0,0))∧((∃ q vn,eB F.kind F.aliases c ln r= .ok q∧v= .int .i64 (0:Nat)∧L=k3 (q,vn)∧Tg w' 0 3 q.next.length vn (q.next.map bA))∨(∃ e:Nat,eB F.kind F.aliases c ln r= .error e∧e≠0∧v= .int .i64 (e:Nat)))
section
variable {xb ln:Nat} {F:aH} {c:bW} {r:List Tx} {w w':World} {st ad cd:Tx} {vn:Value}
theorem iW.no {e:Nat} (hm:Md (fun k=>k=xb) w w') (a:w'.heap[xb]? =some (.cells [.int .i64 (c.kind:Nat),bA c.flag,.bool c.dX,str st,str ad,str cd,vn,.int .i64 (ln:Nat)].toArray 127 (0,0))) (hv:vn.oneCell'=true) (h:eB F.kind F.aliases c ln r= .error e) (he:e≠0):iW xb F c ln r w (.int .i64 (e:Nat)) w':=
 ⟨hm,_,rfl,by simp only [List.all_cons,hv]; rfl,a,.inr ⟨e,h,he,rfl⟩⟩
theorem iW.ok {nx:List Nat} (hm:Md (fun k=>k=xb) w w') (a:w'.heap[xb]? =some (.cells [.int .i64 (c.kind:Nat),bA c.flag,.bool c.dX,str st,str ad,str cd,vn,.int .i64 (ln:Nat)].toArray 127 (0,0))) (hv:vn.oneCell'=true) (hT:Tg w' 0 3 nx.length vn (nx.map bA)) (h:eB F.kind F.aliases c ln r= .ok ⟨c.kind,c.flag,c.dX,st,ad,cd,nx,ln⟩):iW xb F c ln r w (.int .i64 (0:Nat)) w':=
 ⟨hm,_,rfl,by simp only [List.all_cons,hv]; rfl,a,.inl ⟨_,vn,h,rfl,rfl,hT⟩⟩
end
theorem E8 {s t:Tx} (h:t∈(cB s).1) (hs:s.length≤1048576):(t.length=1∨3≤t.length)∧t.length≤1048576:=by
 have :=E7.1 t h
 exact ⟨this.1,by omega⟩
theorem uO (w:World) (B e:Nat):Tg w B e 0 (.slice none 0 0) []:=⟨none,0,rfl,Nat.le_refl _,.inl rfl⟩
theorem He {F F':aH} {ln:Nat} {row:List Tx} (h:fw F ln row= .ok F'):F'.a3=F.a3∧F'.kind=F.kind:=by
 unfold fw at h
 repeat' split at h
 all_goals first
  | (cases h; done)
  | (cases h; exact ⟨rfl,rfl⟩)
theorem zn (B fb xb:Nat) (F:aH) (V:fj) (c:bW) (ln:Nat) (r:List Tx) (aq:Nat) (a:Option Addr) (j:Nat) (w:World) (hF:jN w B 0 fb F V) (hk:F.kind=1∨F.kind=2∨F.kind=3) (bT:F.aliases.length≤70000) (cm:w.heap[xb]? =some (.cells [ae (c.kind),bA c.flag,.bool c.dX,str [],str [],str [],.slice none 0 0,ae ln].toArray 127 (0,0))) (hT:Tg w aq 9 r.length (.slice a r.length j) (r.map str)) (hr:r.length=4∨r.length=5) (hrl:∀ x∈r,x.length≤70000):
 aV Tryz.prog 126 (List.toArray [aI fb,aI xb,.slice a r.length j]) w (iW xb F c ln r w):=by
 have hTs:=hT.bF
 have cv:(r.getD 2 []).length≤70000:=hrl _ (c5 (by omega))
 have cw:(r.getD 3 []).length≤70000:=hrl _ (c5 (by omega))
 have hwl:=mP (r.getD 3 [])
 refine enter Tryz.func126 rfl Tryz.ntmps126 rfl ?_
 refine U (fun _ a9=>(aj (((a9 _ _ (U (fun _ bh=>(ag (.slice a r.length j) ?_))))))))
 refine p (aJ bC rfl rfl (by omega) (aw.ok (hTs.2) (bo (by omega)))) (p (ld bz rfl (bp.get (i:=2) hTs.2 (by omega))) (e (cl rS (tq (r.getD 2 []) true w (by omega)) rfl fun cy w19 bt=> ?_)))
 obtain ⟨⟨st,e,rfl,a5⟩,hE19⟩:=bt
 have hx1:=Wk.aA hE19 cm
 have hm19:Md (fun k=>k=xb) w w19:=hE19.mono (fun _ _ h=>h.elim)
 refine p mv (p (xt rfl rfl) (p (xt rfl rfl) (p ak (aj (((bh _ _ (sq (fun _ bi=> ?_)))))))))
 refine U (fun _ bj=>(p mv (p (bH rfl rfl) (au ((bj _ _ (cd rfl (fun hc23=> ?_) (fun hc23=> ?_))))))))
 have a4:dq true (r.getD 2 [])= .error e∧e≠0:=by
  rcases a5 with ⟨_,h⟩ | h
  omega
  exact h
 refine U (fun _ ax=>(p mv (aj (((ax _ _ (rt (tr ?_))))))))
 exact f1 rfl rfl (iW.no hm19 hx1 rfl (Kr hr a4.1) a4.2)
 obtain ⟨am,rfl⟩:dq true (r.getD 2 [])= .ok st∧e=0:=by
  rcases a5 with h | ⟨_,h⟩
  exact h
  omega
 refine az (tn (bi _ _ (U (fun _ ax=>(ag (aI xb) (p mv (p (nc rfl) (p (fa GF rfl) ?_))))))))
 refine e (cj jc rfl rfl (v:=str st) rfl hx1 (by show _ < 8; omega) fun w4 aF bs=> ?_)
 have hxE4:=hx1
 have hT4:=(hT.wk hE19).md aF (dM hxE4 (by decide))
 have hF4:=(hF.wk hE19).md aF (TF.eq (L:= [129]) (cR hxE4) (by decide)) (by decide)
 have hm4:=(hm19).trans' aF (fun _ _ h=>h)
 have cp:w4.heap[xb]? =some (.cells [ae (c.kind),bA c.flag,.bool c.dX,str st,str [],str [],.slice none 0 0,ae ln].toArray 127 (0,0)):=bs
 refine au ((ax _ _ (U (fun _ bk=>(ag (.slice a r.length j) (p (aJ bC rfl rfl (by omega) (aw.ok (hT4.bF.2) (bo (by omega)))) (p (ld bz rfl (bp.get (i:=3) hT4.bF.2 (by omega))) (e (cl pI (qS (r.getD 3 []) w4 (by omega)) rfl fun cz w33 bu=> ?_)))))))))
 obtain ⟨rfl,C⟩:=bu
 have hx5:=Wk.aA C cp
 have aK:Md (fun k=>k=xb) w w33:=hm4.trans' C (fun _ _ h=>h.elim)
 refine p mv (p (xt rfl rfl) (p (xt rfl rfl) (p (xt rfl rfl) (p (xt rfl rfl) (p ak (p ak (p ak ?_)))))))
 refine aj (((bk _ _ (sq (fun _ bl=>U (fun _ bm=>(p mv (p (bH rfl rfl) ?_))))))))
 refine au ((bm _ _ (cd rfl (fun bK=> ?_) (fun bK=> ?_))))
 refine U (fun _ q=>(p mv (aj (((q _ _ (rt (tr ?_))))))))
 exact f1 rfl rfl (iW.no aK hx5 rfl (AW hr am (vv (by omega))) (by omega))
 have aT:(aW (r.getD 3 [])).2.2.2=0:=by omega
 refine az (tn (bl _ _ ?_))
 refine c6 (fun I wC=> ∃ (s1 A:Tx),(dq true (r.getD 2 [])= .ok s1)∧(gN (aW (r.getD 3 []))= .ok A)∧(wC.heap[xb]? =some (.cells [ae (c.kind),bA c.flag,.bool c.dX,str s1,str A,str [],.slice none 0 0,ae ln].toArray 127 (0,0)))∧(jN wC B 0 fb F V)∧(Tg wC aq 9 r.length (.slice a r.length j) (r.map str))∧(Md (fun k=>k=xb) w wC)∧(I 0=aI fb)∧(I 1=aI xb)∧(I 2= .slice a r.length j)∧(I 10=str (aW (r.getD 3 [])).2.1)∧(I 11= .bool (aW (r.getD 3 [])).2.2.1)) ?_ ?_
 refine U (fun _ q=>(p mv (p (jZ rfl rfl) (au ((q _ _ (cd rfl (fun ai=> ?_) (fun ai=> ?_))))))))
 refine U (fun _ s=>(p mv (e (cl rY (tj (aW (r.getD 3 [])).1 w33 (by omega)) rfl fun cA w44 bv=> ?_))))
 obtain ⟨rfl,ah⟩:=bv
 have hx6:=Wk.aA ah hx5
 have a0:Md (fun k=>k=xb) w w44:=aK.trans' ah (fun _ _ h=>h.elim)
 refine aj (((s _ _ (sq (fun _ M=>U (fun _ O=>(p mv (p (bH rfl rfl) ?_))))))))
 refine au ((O _ _ (cd rfl (fun bL=> ?_) (fun bL=> ?_))))
 refine U (fun _ ar=>(p mv (aj (((ar _ _ (rt (tr ?_))))))))
 exact tr (f1 rfl rfl (iW.no a0 hx6 rfl (AW hr am (vw aT ai (by omega))) (by omega)))
 refine az (tn (M _ _ (rg rfl (ag (aI xb) (p mv (p (nc rfl) (p (fa GG rfl) (e (cj jc rfl rfl (v:=str (aW (r.getD 3 [])).1) rfl hx6 (by show _ < 8; omega) fun w12 aD hB12=> ?_)))))))))
 have hxE12:=hx6
 have hT12:=((hT4.wk C).wk ah).md aD (dM hxE12 (by decide))
 have hF12:=((hF4.wk C).wk ah).md aD (TF.eq (L:= [129]) (cR hxE12) (by decide)) (by decide)
 have hm12:=(a0).trans' aD (fun _ _ h=>h)
 have cn:w12.heap[xb]? =some (.cells [ae (c.kind),bA c.flag,.bool c.dX,str st,str (aW (r.getD 3 [])).1,str [],.slice none 0 0,ae ln].toArray 127 (0,0)):=hB12
 exact au ((⟨st,(aW (r.getD 3 [])).1,am,(vz aT ai (by omega)),cn,hF12,hT12,hm12,rfl,rfl,rfl,rfl,rfl⟩))
 exact az (tn (⟨st,[],am,(vA aT (Classical.not_not.1 ai)),hx5,(hF4.wk C),(hT4.wk C),aK,rfl,rfl,rfl,rfl,rfl⟩))
 rintro I wC ⟨s1,A,aa,Z,an,aB,aY,aL,b1,b2,b5,b3,b4⟩
 refine fx 0 b1 (fx 1 b2 (fx 2 b5 (fx 10 b3 (fx 11 b4 ?_))))
 refine c6 (fun J aU=>((aW (r.getD 3 [])).2.2.1=true→c.kind≠1)∧(aU=wC)∧(J 0=aI fb)∧(J 1=aI xb)∧(J 2= .slice a r.length j)∧(J 10=str (aW (r.getD 3 [])).2.1)∧(J 11= .bool (aW (r.getD 3 [])).2.2.1)) ?_ ?_
 refine U (fun _ q=>(ag (.bool (aW (r.getD 3 [])).2.2.1) (ag (.bool (aW (r.getD 3 [])).2.2.1) (gb (t:=53) rfl (fun aG=> ?_) (fun aG=> ?_)))))
 refine pg rfl rfl rfl (aC (aI xb) rfl) (pg rfl rfl rfl (nc rfl) (pg rfl rfl rfl (fa GD rfl) (pg rfl rfl rfl (ld bU rfl ((aR an).trans rfl)) (pg rfl rfl rfl (bd rfl rfl) (p (bc rfl) (au ((q _ _ ?_))))))))
 refine cd rfl (fun bM=> ?_) (fun bM=> ?_)
 refine U (fun _ s=>(aj (((s _ _ (rt (tr (f1 rfl rfl ?_))))))))
 exact iW.no aL an rfl (AX hr aa Z (Ad aG (by omega))) (by decide)
 exact az (tn (⟨((fun _=>by omega)),rfl,rfl,rfl,rfl,rfl,rfl⟩))
 refine sk rfl rfl rfl rfl (sk rfl rfl rfl rfl (sk rfl rfl rfl rfl (sk rfl rfl rfl rfl (sk rfl rfl rfl rfl (p (a6 rfl) (au ((q _ _ ?_))))))))
 exact cf rfl (az (tn (⟨((fun h=>absurd (h.symm.trans aG) Bool.noConfusion)),rfl,rfl,rfl,rfl,rfl,rfl⟩)))
 rintro J aU ⟨aZ,ck,b6,b7,ca,b8,b9⟩
 refine fx 0 b6 (fx 1 b7 (fx 2 ca (fx 10 b8 (fx 11 b9 ?_))))
 subst ck
 refine c6 (fun ap G=> ∃ (l:List Nat) (vn:Value),(g8 F.kind F.aliases c.kind (aW (r.getD 3 []))= .ok l)∧(G.heap[xb]? =some (.cells [ae (c.kind),bA c.flag,.bool c.dX,str s1,str A,str [],vn,ae ln].toArray 127 (0,0)))∧(vn.oneCell'=true)∧(Tg G 0 3 l.length vn (l.map bA))∧(jN G B 0 fb F V)∧(Tg G aq 9 r.length (.slice a r.length j) (r.map str))∧(Md (fun k=>k=xb) w G)∧(ap 0=aI fb)∧(ap 1=aI xb)∧(ap 2= .slice a r.length j)) ?_ ?_
 refine U (fun _ q=>(ag (.bool (aW (r.getD 3 [])).2.2.1) (au ((q _ _ (cb rfl (fun E=> ?_) (fun E=> ?_)))))))
 refine U (fun _ s=>(ag (aI xb) (ag (aI fb) (ag (str (aW (r.getD 3 [])).2.1) (e (cl xx (zj B fb F V (aW (r.getD 3 [])).2.1 aU aB hk bT (by omega)) rfl fun cC w65 bw=> ?_))))))
 obtain ⟨⟨ab,e65,rfl,aO,hfl⟩,hE65⟩:=bw
 have hx16:=Wk.aA hE65 an
 have bV:Md (fun k=>k=xb) w w65:=aL.trans' hE65 (fun _ _ h=>h.elim)
 refine p mv (p (xt rfl rfl) (p (xt rfl rfl) (p (nc rfl) (p (fa s0 rfl) (e (cj xT rfl rfl (v:=ab) aO hx16 (by show _ < 8; omega) fun w16 hM16 bn=> ?_))))))
 have hxE16:=hx16
 have hT16:=(aY.wk hE65).md hM16 (dM hxE16 (by decide))
 have hF16:=(aB.wk hE65).md hM16 (TF.eq (L:= [129]) (cR hxE16) (by decide)) (by decide)
 have hm16:=(bV).trans' hM16 (fun _ _ h=>h)
 have a8:w16.heap[xb]? =some (.cells [ae (c.kind),bA c.flag,.bool c.dX,str s1,str A,str [],ab,ae ln].toArray 127 (0,0)):=bn
 refine aj (((s _ _ (U (fun _ M=>(p mv (p (bH rfl rfl) (nl ?_))))))))
 refine tn (M _ _ (cd rfl (fun bN=> ?_) (fun bN=> ?_)))
 obtain ⟨bR,bS⟩:e65≠0∧ec F.kind F.aliases (aW (r.getD 3 [])).2.1= .error e65:=by
  rcases hfl with ⟨l,h,_⟩ | h
  omega
  exact h
 refine U (fun _ O=>(p mv (aj (((O _ _ (rt (tr ?_))))))))
 exact f1 rfl rfl (iW.no hm16 a8 aO (AX hr aa Z ((qD E (aZ E)).trans bS)) bR)
 obtain ⟨l,rfl,hfo,bG⟩:∃ l,e65=0∧ec F.kind F.aliases (aW (r.getD 3 [])).2.1= .ok l∧Tg w65 0 3 l.length ab (l.map bA):=by
  rcases hfl with h | ⟨h,_⟩
  exact h
  omega
 exact az (tn (⟨l,ab,((qD E (aZ E)).trans hfo),a8,aO,(bG.md hM16 (dM hx16 (by decide))),hF16,hT16,hm16,rfl,rfl,rfl⟩))
 exact az (tn (⟨[],.slice none 0 0,(Ae E),an,rfl,(uO _ _ _),aB,aY,aL,rfl,rfl,rfl⟩))
 rintro ap G ⟨l,vn,aN,aS,aQ,bI,cu,bE,bY,ce,cg,ch⟩
 refine fx 0 ce (fx 1 cg (fx 2 ch (U (fun _ q=>(ag (aI xb) (p (nc rfl) (p (fa yY rfl) (e (cj jc rfl rfl (v:=str [46]) rfl aS (by show _ < 8; omega) fun w19 aE bq=> ?_)))))))))
 have hxE19:=aS
 have hT19:=(bE).md aE (dM hxE19 (by decide))
 have hm19:=(bY).trans' aE (fun _ _ h=>h)
 have a7:w19.heap[xb]? =some (.cells [ae (c.kind),bA c.flag,.bool c.dX,str s1,str A,str [46],vn,ae ln].toArray 127 (0,0)):=bq
 have hTl19:=bI.md aE (dM aS (by decide))
 refine au ((q _ _ ?_))
 refine c6 (fun cs ao=> ∃ (cd:Tx),(ig r= .ok cd)∧(ao.heap[xb]? =some (.cells [ae (c.kind),bA c.flag,.bool c.dX,str s1,str A,str cd,vn,ae ln].toArray 127 (0,0)))∧(Tg ao 0 3 l.length vn (l.map bA))∧(Md (fun k=>k=xb) w ao)) ?_ ?_
 refine U (fun _ s=>(ag (.slice a r.length j) (p (bg dy rfl rfl) (p (bd rfl rfl) (au ((s _ _ (cd rfl (fun bO=> ?_) (fun bO=> ?_)))))))))
 have cx:(r.getD 4 []).length≤70000:=hrl _ (c5 (by omega))
 have aP:r.length=5:=by omega
 refine U (fun _ M=>(ag (.slice a r.length j) (p (aJ bC rfl rfl (by omega) (aw.ok (hT19.bF.2) (bo (by omega)))) (p (ld bz rfl (bp.get (i:=4) hT19.bF.2 (by omega))) (e (cl nY (oJ (r.getD 4 []) w19 (by omega)) rfl fun cD w82 bx=> ?_))))))
 obtain ⟨rfl,Y⟩:=bx
 have hx82:=Wk.aA Y a7
 have a1:Md (fun k=>k=xb) w w82:=hm19.trans' Y (fun _ _ h=>h.elim)
 refine aj (((M _ _ (sq (fun _ O=>U (fun _ ar=>(p mv (p (no rfl) ?_))))))))
 refine au ((ar _ _ (cb rfl (fun al=> ?_) (fun al=> ?_))))
 refine U (fun _ av=>(aj (((av _ _ (rt (tr (tr ?_))))))))
 exact f1 rfl rfl (iW.no a1 hx82 aQ (AY hr aa Z aN (xI aP (by simpa using al))) (by decide))
 refine az (tn (O _ _ (U (fun _ av=>(ag (.slice a r.length j) (p (aJ bC rfl rfl (by omega) (aw.ok ((hT19.wk Y).bF.2) (bo (by omega)))) (p (ld bz rfl (bp.get (i:=4) (hT19.wk Y).bF.2 (by omega))) (e (cl Dk (JN (r.getD 4 []) w82 (by omega)) rfl fun cE w89 bB=> ?_)))))))))
 obtain ⟨⟨ct,rfl,a3⟩,hE89⟩:=bB
 obtain ⟨ac,cc,rfl⟩:=b0 a3
 have hx89:=Wk.aA hE89 hx82
 have a2:Md (fun k=>k=xb) w w89:=a1.trans' hE89 (fun _ _ h=>h.elim)
 refine p mv (p (xt rfl rfl) (p (xt rfl rfl) (p ak (aj (((av _ _ (sq (fun _ ba=> ?_)))))))))
 refine U (fun _ bb=>(p mv (p (bH rfl rfl) (au ((bb _ _ (cd rfl (fun bP=> ?_) (fun bP=> ?_))))))))
 refine U (fun _ bf=>(p mv (aj (((bf _ _ (rt (tr ?_))))))))
 exact tr (f1 rfl rfl (iW.no a2 hx89 aQ (AY hr aa Z aN (xJ aP (by simpa using al) (by omega))) (by omega)))
 refine az (tn (ba _ _ (rg rfl (ag (aI xb) (p mv (e (cl Dl (Km (cB (r.getD 4 [])).1 ac cc w89 (aM a3).2 (by have :=xM (r.getD 4 []); omega) (fun t ci=>E8 ci (by omega))) rfl fun cF w97 bD=> ?_)))))))
 obtain ⟨rfl,ay⟩:=bD
 have hx97:=Wk.aA ay hx89
 have bX:Md (fun k=>k=xb) w w97:=a2.trans' ay (fun _ _ h=>h.elim)
 refine p (nc rfl) (p (fa yY rfl) (e (cj jc rfl rfl (v:=str (jH (cB (r.getD 4 [])).1)) rfl hx97 (by show _ < 8; omega) fun cr aX br=> ?_)))
 have co:cr.heap[xb]? =some (.cells [ae (c.kind),bA c.flag,.bool c.dX,str s1,str A,str (jH (cB (r.getD 4 [])).1),vn,ae ln].toArray 127 (0,0)):=br
 have hm27:=bX.trans' aX (fun _ _ h=>h)
 have hTl27:=(((hTl19.wk Y).wk hE89).wk ay).md aX (dM hx97 (by decide))
 exact au ((⟨jH (cB (r.getD 4 [])).1,(xK aP (by simpa using al) (by omega)),co,hTl27,hm27⟩))
 exact az (tn (⟨[46],(xL (by omega)),a7,hTl19,hm19⟩))
 rintro cs ao ⟨cd,bQ,cq,bJ,bZ⟩
 exact U (fun _ s=>(aj (((s _ _ (rt (f1 rfl rfl (iW.ok bZ cq aQ bJ (Ks hr aa Z aN bQ)))))))))
theorem Hf (w1:World) (H:ea) (F:aH) (k ln:Nat) (seen r:List Tx) (aX:Nat) (E:Option Addr) (G:Nat) (w:World) (a:iU w1 w H F k ln seen) (hT:Tg w aX 9 r.length (.slice E r.length G) (r.map str)) (cr:r≠[]) (hrl:∀ x∈r,x.length≤70000) (cz:F.bN.length+F.aliases.length+F.a3.length+F.rules.length+(H.rows.drop k).length < 70000) (hcl:r.getD 0 []≠dE→r.getD 0 []≠db→0 < F.a3.length):
 aV Tryz.prog 108 (List.toArray [aI H.rb,.slice E r.length G]) w (fun v w'=>((∃ F',fw F ln r= .ok F'∧v=ae 0∧iU w1 w' H F' k ln seen)∨(∃ e:Nat,fw F ln r= .error e∧e≠0∧v=ae e∧Hb.aE w'.heap H.rb 5=some (ae ln)))∧Wk w1 w'):=by
 obtain ⟨V,vh,hF,I,hB,ah,hkl⟩:=a
 have hTs:=hT.bF
 have hlo:=I.lo
 have hflo:=hF.lo
 have hbl:=hB.len
 have hrl0:=List.length_pos_iff.2 cr
 have hrbl:=(Array.getElem?_eq_some_iff.1 I.cells).1
 obtain ⟨b3,gj,bS⟩:=b0 hF.dp
 have ho11:=hF.dp
 rw [bS] at ho11
 have aW:Hb.aE w.heap H.fb 11=some (.slice b3 F.a3.length gj):=by rw [← bS]; exact (aR hF.cells).trans rfl
 refine enter Tryz.func108 rfl Tryz.ntmps108 rfl ?_
 refine U (fun _ bX=>(aj (((bX _ _ (U (fun _ bY=>(ag (aI H.rb) ?_))))))))
 refine p (nc rfl) (p (fa ik rfl) (p (ld ib rfl ((aR I.cells).trans rfl)) (aj (((bY _ _ (sq (fun _ bZ=>sq (fun _ b1=> ?_)))))))))
 refine rg rfl (ag (.slice E r.length G) (p (aJ bC rfl rfl (by omega) (aw.ok (hTs.2) (bo (by omega)))) (p (ld bz rfl (bp.get (i:=0) hTs.2 (by omega))) (au ((b1 _ _ (aA (sq (fun _ b2=> ?_)))))))))
 refine rg rfl (p (cM rfl rfl) (aj (((b2 _ _ (cd rfl (fun bm=> ?_) (fun bm=> ?_)))))))
 have h0:r.getD 0 []=dE:=bm
 refine sq (fun _ aY=>U (fun _ ay=>(ag (.slice E r.length G) (p (bg dy rfl rfl) (p (bH rfl rfl) (au ((ay _ _ ?_))))))))
 refine cd rfl (fun cg=> ?_) (fun cg=> ?_)
 refine U (fun _ ac=>(aj (((ac _ _ (rt (tr (br ?_))))))))
 exact tr (f1 rfl rfl (⟨.inr ⟨111,by unfold fw; rw [if_pos h0,AM (by omega)],by decide,rfl,I.bM⟩,ah⟩))
 have bv:r.length=3:=by omega
 have hl1:=hrl _ (c5 (d:= []) (i:=1) (by omega))
 have hl2:=hrl _ (c5 (d:= []) (i:=2) (by omega))
 refine az (tn (aY _ _ (U (fun _ ac=>(ag (.slice E r.length G) (p (aJ bC rfl rfl (by omega) (aw.ok (hTs.2) (bo (by omega)))) (p (ld bz rfl (bp.get (i:=1) hTs.2 (by omega))) (e (cl rS (tq (r.getD 1 []) false w (by omega)) rfl fun v30 w30 b9=> ?_)))))))))
 obtain ⟨⟨ai,aS,rfl,aB⟩,hE30⟩:=b9
 have hT30:=hT.wk hE30
 refine p mv (p (xt rfl rfl) (p (xt rfl rfl) (p ak (aj (((ac _ _ (sq (fun _ J=> ?_)))))))))
 refine U (fun _ al=>(p mv (p (bH rfl rfl) (au ((al _ _ (cd rfl (fun ch=> ?_) (fun ch=> ?_))))))))
 have bP:dq false (r.getD 1 [])= .error aS∧aS≠0:=by
  rcases aB with ⟨_,h⟩ | h
  omega
  exact h
 refine U (fun _ Y=>(p mv (aj (((Y _ _ (rt (tr ?_))))))))
 exact br (tr (f1 rfl rfl (⟨.inr ⟨aS,by unfold fw; rw [if_pos h0,AN bv bP.1],bP.2,rfl,(I.wk hE30).bM⟩,ah.trans hE30⟩)))
 obtain ⟨bQ,rfl⟩:dq false (r.getD 1 [])= .ok ai∧aS=0:=by
  rcases aB with h | ⟨_,h⟩
  exact h
  omega
 refine az (tn (J _ _ (U (fun _ Y=>(ag (.slice E r.length G) (p (aJ bC rfl rfl (by omega) (aw.ok (hT30.bF.2) (bo (by omega)))) (p (ld bz rfl (bp.get (i:=2) hT30.bF.2 (by omega))) (e (cl rS (tq (r.getD 2 []) true w30 (by omega)) rfl fun cG w40 ca=> ?_)))))))))
 obtain ⟨⟨ax,b5,rfl,hp2⟩,hE40⟩:=ca
 have hE40x:=hE30.trans hE40
 have hF4:=hF.wk hE40x
 refine p mv (p (xt rfl rfl) (p (xt rfl rfl) (p ak (aj (((Y _ _ (sq (fun _ aF=> ?_)))))))))
 refine rg rfl (p mv (p mv (p (nc rfl) (p (fa yX rfl) (p (ld Cv rfl ((aR hF4.cells).trans rfl)) (p mv (p mv ?_)))))))
 refine p (bV (ps:= [(0,str ai),(1,str ax)]) (L:= [str ai,str ax]) Ld rfl (rfl)) (e (ic Bc rfl rfl rfl fun cx w51 cA b8 b6=> ?_))
 have hE51:=hE40x.trans b8.md
 have hF5:=hF.wk hE51
 have hR5:=I.wk hE51
 have hz51:=hE51.size
 refine e (ap Bc (hF5.o9) rfl (by omega) rfl (aw.cV b6) (rfl) (rfl) (by omega) (by omega) fun bT w52 bK aT hz52 cD=> ?_)
 have hR6:=hR5.own hF5.o9 aT (by decide)
 have hc6:=aT.aA hF5.cells (cw hF5.o9 hF5.cells (by decide))
 have cp:World.ownsRow w52 w1.heap.size 219 2 bT (F.bN++ [(ai,ax)]).length (gT (F.bN++ [(ai,ax)])):=by rw [show gT (F.bN++ [(ai,ax)])=gT F.bN++ [str ai,str ax] from by simp [gT],List.length_append]; exact bK
 have hW6:Wk w1 w52:=(ah.trans hE51).trans' aT (fun k hk h=>by have :=(c7 hF5.o9 h).1; omega)
 refine p (nc rfl) (p (fa yX rfl) (e (cj Fq rfl rfl (v:=bT) (dU bK) hc6 (by show _ < 13; omega) fun w9 hM9 an=> ?_)))
 have hF7:=dA.rN (x:=(ai,ax)) hF5 aT cp hM9 an
 have hR7:=hR6.kn hc6 hM9
 have C:Wk w1 w9:=hW6.trans' hM9 (fun k hk h=>by omega)
 refine au ((aF _ _ (U (fun _ aG=>(p mv (aj (((aG _ _ ?_)))))))))
 refine rt (br (tr (f1 rfl rfl ?_)))
 rcases hp2 with ⟨O,rfl⟩ | ⟨O,hne⟩
 exact ⟨.inl ⟨_,by unfold fw; rw [if_pos h0,AP bv bQ O],rfl,⟨_,vh,hF7,hR7,⟨by simp only [List.length_append,List.length_singleton]; omega,hB.sl,hB.row,hB.kd⟩,C,hkl⟩⟩,C⟩
 exact ⟨.inr ⟨b5,by unfold fw; rw [if_pos h0,AO bv bQ O],hne,rfl,hR7.bM⟩,C⟩
 have h0:¬r.getD 0 []=dE:=bm
 refine U (fun _ aY=>(p (cM rfl rfl) (aj (((aY _ _ (cd rfl (fun bq=> ?_) (fun bq=> ?_))))))))
 have h1:r.getD 0 []=db:=bq
 refine sq (fun _ ay=>U (fun _ ac=>(ag (.slice E r.length G) (p (bg dy rfl rfl) (p (bH rfl rfl) (au ((ac _ _ ?_))))))))
 refine cd rfl (fun ci=> ?_) (fun ci=> ?_)
 refine U (fun _ J=>(aj (((J _ _ (rt (tr (br ?_))))))))
 exact tr (f1 rfl rfl (⟨.inr ⟨111,by unfold fw; rw [if_neg h0,if_pos h1,vM (by omega)],by decide,rfl,I.bM⟩,ah⟩))
 have bR:r.length=2:=by omega
 have hl1:=hrl _ (c5 (d:= []) (i:=1) (by omega))
 refine az (tn (ay _ _ (sq (fun _ J=> ?_))))
 have ab:(fun w'=>Wk w w') w.drew:=(Md.refl _ _).drew
 refine bD (fun w'=>Wk w w') rfl wide ab (aB 0 rfl (fun _ _=>mv) ab (aB 1 rfl (fun _ _=>nc rfl) ab (aB 2 rfl (fun _ _=>fa nf rfl) ab (aB 3 rfl (fun w' a=>ld bU rfl (Wk.aE a ((aR hF.cells).trans rfl))) ab (bl 4 rfl (.slice E r.length G) ab (aB 5 rfl (fun _ _=>aJ bC rfl rfl (by omega) (aw.ok (aw.wk hTs.2 ab) (bo (by omega)))) ab (aB 6 rfl (fun w' a=>ld bz rfl (Wk.aE a (bp.get (i:=1) hTs.2 (by omega)))) ab ?_)))))))
 refine he 7 rfl (by kernel_rfl) (cl wx (AR F.kind (r.getD 1 []) w.drew hB.kd (by omega)) rfl fun cH w69 cb=> ?_)
 obtain ⟨⟨cv,rfl,bL⟩,hE69⟩:=cb
 obtain ⟨bI,pH,rfl⟩:=b0 bL
 have hE69:=e8 hE69
 have hF4:=hF.wk hE69
 have aD:(fun w'=>Wk w w') w69:=Md.mono hE69 (fun _ _ h=>h)
 refine ⟨aD,?_⟩
 refine aB 8 rfl (fun _ _=>mv) aD (aB 9 rfl (fun _ _=>xt rfl rfl) aD (aB 10 rfl (fun _ _=>xt rfl rfl) aD (aB 11 rfl (fun _ _=>ak) aD (aB 12 rfl (fun _ _=>ak) aD (hn (by kernel_rfl) (tn (J _ _ (sq (fun _ al=> ?_)))))))))
 refine rg rfl (p mv (p mv (p (nc rfl) (p (fa oh rfl) (p (ld ph rfl ((aR hF4.cells).trans rfl)) (p mv (e (ef Be rfl rfl fun cy cu cB bJ b7=> ?_))))))))
 have hE78:=hE69.trans bJ.md
 have hF5:=hF.wk hE78
 have hR5:=I.wk hE78
 have hz78:=hE78.size
 refine e (ap Be (hF5.dI) rfl (by omega) rfl (aw.cV b7) (rfl) (rfl) (by omega) (by omega) fun bW w79 bO aU hz79 cF=> ?_)
 have hR6:=hR5.own hF5.dI aU (by decide)
 have hc6:=aU.aA hF5.cells (cw hF5.dI hF5.cells (by decide))
 have cc:Tg cu 0 3 (cU F.kind (r.getD 1 [])).1.length (.slice bI (cU F.kind (r.getD 1 [])).1.length pH) ((cU F.kind (r.getD 1 [])).1.map bA):=((Tg.fZ bL).mono (Nat.zero_le _)).wk bJ.md
 have cq:World.ownsRow w79 w1.heap.size 64 1 bW (F.aliases++ [(cU F.kind (r.getD 1 [])).1]).length (V.sa++ [.slice bI (cU F.kind (r.getD 1 [])).1.length pH]):=by rw [List.length_append]; exact bO
 have hW6:Wk w1 w79:=(ah.trans hE78).trans' aU (fun k hk h=>by have :=(c7 hF5.dI h).1; omega)
 refine p (nc rfl) (p (fa oh rfl) (e (cj Fs rfl rfl (v:=bW) (dU bO) hc6 (by show _ < 13; omega) fun w9 hM9 an=> ?_)))
 have hF7:=dA.rL (x:=(cU F.kind (r.getD 1 [])).1) hF5 cc aU cq hM9 an
 have hR7:=hR6.kn hc6 hM9
 have C:Wk w1 w9:=hW6.trans' hM9 (fun k hk h=>by omega)
 refine au ((al _ _ (U (fun _ Y=>(p mv (aj (((Y _ _ ?_)))))))))
 refine rt (br (tr (f1 rfl rfl ?_)))
 by_cases h:(cU F.kind (r.getD 1 [])).2=0
 exact ⟨.inl ⟨_,by unfold fw; rw [if_neg h0,if_pos h1,pq bR,qn h],by rw [h]; rfl,⟨_,vh,hF7,hR7,⟨by simp only [List.length_append,List.length_singleton]; omega,hB.sl,hB.row,hB.kd⟩,C,hkl⟩⟩,C⟩
 exact ⟨.inr ⟨_,by unfold fw; rw [if_neg h0,if_pos h1,pq bR,qm h],h,rfl,hR7.bM⟩,C⟩
 have h1:¬r.getD 0 []=db:=bq
 have hc0:=hcl h0 h1
 refine az (bn (tn (bZ _ _ (sq (fun _ ay=>U (fun _ ac=>(ag (.slice E r.length G) (p (bg dy rfl rfl) ?_))))))))
 refine p (bH rfl rfl) (p mv (gs (t:=86) rfl (fun cn=> ?_) (fun cn=> ?_)))
 refine pg rfl rfl rfl (aC (.slice E r.length G) rfl) (pg rfl rfl rfl (bg dy rfl rfl) (pg rfl rfl rfl (bH rfl rfl) (p (bc rfl) (au ((ac _ _ (cd rfl (fun ck=> ?_) (fun ck=> ?_))))))))
 refine U (fun _ J=>(aj (((J _ _ (rt (tr (f1 rfl rfl ?_))))))))
 exact ⟨.inr ⟨111,by unfold fw; rw [if_neg h0,if_neg h1,uC (by omega) (by omega)],by decide,rfl,I.bM⟩,ah⟩
 have bw:r.length=4∨r.length=5:=by omega
 refine az (tn (ay _ _ (sq (fun _ J=> ?_))))
 have s:(fun w'=>Wk w w') w.drew:=(Md.refl _ _).drew
 refine bD (fun w'=>Wk w w') rfl wide s (aB 0 rfl (fun _ _=>mv) s (aB 1 rfl (fun _ _=>nc rfl) s (aB 2 rfl (fun _ _=>fa kW rfl) s (aB 3 rfl (fun w' a=>ld lC rfl (Wk.aE a (aW))) s (aB 4 rfl (fun _ _=>mv) s (aB 5 rfl (fun _ _=>nc rfl) s (aB 6 rfl (fun _ _=>fa kW rfl) s ?_)))))))
 refine aB 7 rfl (fun w' a=>ld lC rfl (Wk.aE a (aW))) s (aB 8 rfl (fun _ _=>bg uP rfl rfl) s (aB 9 rfl (fun _ _=>cI ((F.a3.length - 1:Nat):Int) rfl rfl (aQ (by omega) (by omega))) s (aB 10 rfl (fun _ _=>aJ p5 rfl rfl (by omega) (aw.ok (aw.wk (aM ho11).2 s) (qp (by omega)))) s (aB 11 rfl (fun w' a=>dm mX rfl (rfl) (fun j aN=>fS (f:=jw) (m:=5) (fun _=>rfl) (aw.wk (aM ho11).2 a) (n7 (by omega :F.a3.length - 1 < F.a3.length)) j aN)) s (he 12 rfl (by kernel_rfl) (fQ mQ fun aZ w11 hb11 ao a0=> ?_))))))
 have hz11:=ao.size
 have hz20:=s.size
 have bf:(fun w'=>Wk w w') w11:=s.trans ao.md
 refine ⟨bf,?_⟩
 refine he 13 rfl (by kernel_rfl) (gd lL rfl rfl rfl rfl a0 (by decide) fun w20 a9 a2=> ?_)
 have aa:Wk w w20:=(s.trans ao.md).trans' a9 (fun k hk h=>by omega)
 have av:w20.heap[aZ]? =some (.cells (jw (eA F)).toArray 129 (0,0)):=a2
 have bh:(fun w'=>Wk w w') w20:=aa
 refine ⟨bh,?_⟩
 refine hn (by kernel_rfl) (tn (J _ _ (sq (fun _ al=> ?_))))
 have hS21:(fun w'=>Wk w20 w') w20.drew:=(Md.refl _ _).drew
 refine bD (fun w'=>Wk w20 w') rfl wide hS21 (aB 0 rfl (fun _ _=>fa qh rfl) hS21 (aB 1 rfl (fun w' a=>ld bU rfl (Wk.aE a ((aR av).trans rfl))) hS21 (aB 2 rfl (fun _ _=>fa s5 rfl) hS21 (aB 3 rfl (fun w' a=>ld bU rfl (Wk.aE a ((aR av).trans rfl))) hS21 (aB 4 rfl (fun _ _=>fa y0 rfl) hS21 (aB 5 rfl (fun w' a=>ld pk rfl (Wk.aE a ((aR av).trans rfl))) hS21 (bl 6 rfl (aI H.rb) hS21 ?_)))))))
 refine aB 7 rfl (fun _ _=>nc rfl) hS21 (aB 8 rfl (fun _ _=>fa kY rfl) hS21 (aB 9 rfl (fun w' a=>ld bU rfl (Wk.aE a ((aR (I.wk aa).cells).trans rfl))) hS21 (aB 10 rfl (fun _ _=>bV (ps:= [(0,ae ((eA F).kind)),(1,bA (eA F).flag),(2,.bool (eA F).dX),(7,ae ln)]) (L:= [ae ((eA F).kind),bA (eA F).flag,.bool (eA F).dX,.string ⟨⟨[]⟩⟩,.string ⟨⟨[]⟩⟩,.string ⟨⟨[]⟩⟩,.slice none 0 0,ae ln]) Bq rfl (rfl)) hS21 (he 11 rfl (by kernel_rfl) (fQ B5 fun am w12 hb12 aq hB12=> ?_)))))
 have hz12:=aq.size
 have bi:(fun w'=>Wk w20 w') w12:=hS21.trans aq.md
 refine ⟨bi,?_⟩
 refine he 12 rfl (by kernel_rfl) (gd xP rfl rfl rfl rfl hB12 (by decide) fun w21 ba a4=> ?_)
 have hE21:Wk w20 w21:=(hS21.trans aq.md).trans' ba (fun k hk h=>by have :=hS21.size; omega)
 have hE21x:=aa.trans hE21
 have bB:w21.heap[am]? =some (.cells [ae ((eA F).kind),bA (eA F).flag,.bool (eA F).dX,str [],str [],str [],.slice none 0 0,ae ln].toArray 127 (0,0)):=a4
 have hs21:=hS21.size
 have hs20:=aa.size
 have bj:(fun w'=>Wk w20 w') w21:=hE21
 refine ⟨bj,?_⟩
 refine hn (by kernel_rfl) (tn (al _ _ (U (fun _ Y=>(p mv (ag (.slice E r.length G) (e (cl wP (zn w1.heap.size H.fb am F V (eA F) ln r aX E G w21 (hF.wk hE21x).r hB.kd (by omega) bB (hT.wk hE21x) bw hrl) rfl fun ct w116 bd=> ?_))))))))
 obtain ⟨bs,L,aK,a7,a8,bx⟩:=bd
 have Z:Wk w w116:=hE21x.trans' bs (fun k hk h=>by omega)
 have hF4:=hF.wk Z
 have hR4:=I.wk Z
 have co:¬(V.cC.ownBlock=some H.rb):=cw hF4.cO hR4.cells (by decide)
 have bt:¬(V.cC.ownBlock=some H.fb):=cw hF4.cO hF4.cells (by decide)
 have hnx:¬(V.cC.ownBlock=some am):=fun h=>by have :=(c7 hF.cO h).2; omega
 refine aj (((Y _ _ (sq (fun _ aF=> ?_)))))
 have A:(fun w'=>Md (fun k=>V.cC.ownBlock=some k) w116 w') w116.drew:=(Md.refl _ _).drew
 refine dH (fun w'=>Md (fun k=>V.cC.ownBlock=some k) w116 w') 10 rfl wide A (a5 0 rfl (fun _=>mv) (fun _=>A) (a5 1 rfl (fun _=>mv) (fun _=>A) (a5 2 rfl (fun _=>nc rfl) (fun _=>A) (a5 3 rfl (fun _=>fa jU rfl) (fun _=>A) (cQ 4 rfl (fun w' a=>ld kP rfl (Md.aE a ((aR hF4.cells).trans rfl) bt)) A (cQ 5 rfl (fun w' a=>dm vH rfl (aK) (fun j aN=>bE.cW ⟨_,Md.aA a a8 hnx⟩ j)) A (fC 6 rfl (by kernel_rfl) (ic qV rfl rfl aK fun b4 w123 ce bb a1=> ?_))))))))
 have hE123:=e8 bb.md
 have hF5:=hF4.wk hE123
 have hR5:=hR4.wk hE123
 have hz5:=(Z.trans hE123).size
 have aL:(fun w'=>Md (fun k=>V.cC.ownBlock=some k) w116 w') w123:=Md.mono hE123 (fun _ _ h=>h.elim)
 refine ⟨aL,?_⟩
 refine fC 7 rfl (by kernel_rfl) (ap qV (hF5.cO) rfl (by omega) rfl (aw.cV a1) (by omega) (a7) (by omega) (by omega) fun aP w124 aO M cs cm=> ?_)
 have hR6:=hR5.own hF5.cO M (by decide)
 have hc6:=M.aA hF5.cells (cw hF5.cO hF5.cells (by decide))
 have hW6:Wk w1 w124:=(ah.trans (Z.trans hE123)).trans' M (fun k hk h=>by have :=(c7 hF5.cO h).1; omega)
 have ar:(fun w'=>Md (fun k=>V.cC.ownBlock=some k) w116 w') w124:=aL.trans' M (fun _ _ h=>h)
 refine ⟨ar,?_⟩
 refine a5 8 rfl (fun _=>nc rfl) (fun _=>ar) (a5 9 rfl (fun _=>fa jU rfl) (fun _=>ar) (cE 10 rfl (by kernel_rfl) (by kernel_rfl) (cj xO rfl rfl (v:=aP) (dU aO) hc6 (by show _ < 13; omega) fun w9 hM9 an=> ?_)))
 have hR7:=hR6.kn hc6 hM9
 have C:Wk w1 w9:=hW6.trans' hM9 (fun k hk h=>by omega)
 refine dG (by kernel_rfl) ?_
 refine tn (aF _ _ (U (fun _ aG=>(p mv (aj (((aG _ _ (rt ?_)))))))))
 refine f1 rfl rfl ?_
 have bG:F.rules.length=V.rn.length:=by have :=hF5.nx.1; rw [List.length_map] at this; exact this.symm
 rcases bx with ⟨q,vn,O,rfl,rfl,bk⟩ | ⟨e,O,hne,rfl⟩
 have bu:World.ownsRow w124 w1.heap.size 127 8 aP (F.rules++ [q]).length (jx ((F.rules++ [q]).zip (V.rn++ [vn]))):=by
  rw [List.zip_append bG,show jx (F.rules.zip V.rn++ [q].zip [vn])=jx (F.rules.zip V.rn)++k3 (q,vn) from by simp [jx],List.length_append]
  exact aO
 have hF7:=dA.pA (x:=q) (vx:=vn) hF5 (bk.wk hE123) M bu hM9 an
 exact ⟨.inl ⟨_,by unfold fw; rw [if_neg h0,if_neg h1,O],rfl,⟨_,vh,hF7,hR7,⟨by simp only [List.length_append,List.length_singleton]; omega,hB.sl,hB.row,hB.kd⟩,C,hkl⟩⟩,C⟩
 exact ⟨.inr ⟨e,by unfold fw; rw [if_neg h0,if_neg h1,O],hne,rfl,hR7.bM⟩,C⟩
 have bw:r.length=4∨r.length=5:=by omega
 refine sk rfl rfl rfl rfl (sk rfl rfl rfl rfl (sk rfl rfl rfl rfl (p (a6 rfl) (au ((ac _ _ (cf rfl (az ?_))))))))
 refine tn (ay _ _ (sq (fun _ J=> ?_)))
 have s:(fun w'=>Wk w w') w.drew:=(Md.refl _ _).drew
 refine bD (fun w'=>Wk w w') rfl wide s (aB 0 rfl (fun _ _=>mv) s (aB 1 rfl (fun _ _=>nc rfl) s (aB 2 rfl (fun _ _=>fa kW rfl) s (aB 3 rfl (fun w' a=>ld lC rfl (Wk.aE a (aW))) s (aB 4 rfl (fun _ _=>mv) s (aB 5 rfl (fun _ _=>nc rfl) s (aB 6 rfl (fun _ _=>fa kW rfl) s ?_)))))))
 refine aB 7 rfl (fun w' a=>ld lC rfl (Wk.aE a (aW))) s (aB 8 rfl (fun _ _=>bg uP rfl rfl) s (aB 9 rfl (fun _ _=>cI ((F.a3.length - 1:Nat):Int) rfl rfl (aQ (by omega) (by omega))) s (aB 10 rfl (fun _ _=>aJ p5 rfl rfl (by omega) (aw.ok (aw.wk (aM ho11).2 s) (qp (by omega)))) s (aB 11 rfl (fun w' a=>dm mX rfl (rfl) (fun j aN=>fS (f:=jw) (m:=5) (fun _=>rfl) (aw.wk (aM ho11).2 a) (n7 (by omega :F.a3.length - 1 < F.a3.length)) j aN)) s (he 12 rfl (by kernel_rfl) (fQ mQ fun aZ w11 hb11 ao a0=> ?_))))))
 have hz11:=ao.size
 have hz20:=s.size
 have bf:(fun w'=>Wk w w') w11:=s.trans ao.md
 refine ⟨bf,?_⟩
 refine he 13 rfl (by kernel_rfl) (gd lL rfl rfl rfl rfl a0 (by decide) fun w20 a9 a2=> ?_)
 have aa:Wk w w20:=(s.trans ao.md).trans' a9 (fun k hk h=>by omega)
 have av:w20.heap[aZ]? =some (.cells (jw (eA F)).toArray 129 (0,0)):=a2
 have bh:(fun w'=>Wk w w') w20:=aa
 refine ⟨bh,?_⟩
 refine hn (by kernel_rfl) (tn (J _ _ (sq (fun _ al=> ?_))))
 have hS21:(fun w'=>Wk w20 w') w20.drew:=(Md.refl _ _).drew
 refine bD (fun w'=>Wk w20 w') rfl wide hS21 (aB 0 rfl (fun _ _=>fa qh rfl) hS21 (aB 1 rfl (fun w' a=>ld bU rfl (Wk.aE a ((aR av).trans rfl))) hS21 (aB 2 rfl (fun _ _=>fa s5 rfl) hS21 (aB 3 rfl (fun w' a=>ld bU rfl (Wk.aE a ((aR av).trans rfl))) hS21 (aB 4 rfl (fun _ _=>fa y0 rfl) hS21 (aB 5 rfl (fun w' a=>ld pk rfl (Wk.aE a ((aR av).trans rfl))) hS21 (bl 6 rfl (aI H.rb) hS21 ?_)))))))
 refine aB 7 rfl (fun _ _=>nc rfl) hS21 (aB 8 rfl (fun _ _=>fa kY rfl) hS21 (aB 9 rfl (fun w' a=>ld bU rfl (Wk.aE a ((aR (I.wk aa).cells).trans rfl))) hS21 (aB 10 rfl (fun _ _=>bV (ps:= [(0,ae ((eA F).kind)),(1,bA (eA F).flag),(2,.bool (eA F).dX),(7,ae ln)]) (L:= [ae ((eA F).kind),bA (eA F).flag,.bool (eA F).dX,.string ⟨⟨[]⟩⟩,.string ⟨⟨[]⟩⟩,.string ⟨⟨[]⟩⟩,.slice none 0 0,ae ln]) Bq rfl (rfl)) hS21 (he 11 rfl (by kernel_rfl) (fQ B5 fun am w12 hb12 aq hB12=> ?_)))))
 have hz12:=aq.size
 have bi:(fun w'=>Wk w20 w') w12:=hS21.trans aq.md
 refine ⟨bi,?_⟩
 refine he 12 rfl (by kernel_rfl) (gd xP rfl rfl rfl rfl hB12 (by decide) fun w21 ba a4=> ?_)
 have hE21:Wk w20 w21:=(hS21.trans aq.md).trans' ba (fun k hk h=>by have :=hS21.size; omega)
 have hE21x:=aa.trans hE21
 have bB:w21.heap[am]? =some (.cells [ae ((eA F).kind),bA (eA F).flag,.bool (eA F).dX,str [],str [],str [],.slice none 0 0,ae ln].toArray 127 (0,0)):=a4
 have hs21:=hS21.size
 have hs20:=aa.size
 have bj:(fun w'=>Wk w20 w') w21:=hE21
 refine ⟨bj,?_⟩
 refine hn (by kernel_rfl) (tn (al _ _ (U (fun _ Y=>(p mv (ag (.slice E r.length G) (e (cl wP (zn w1.heap.size H.fb am F V (eA F) ln r aX E G w21 (hF.wk hE21x).r hB.kd (by omega) bB (hT.wk hE21x) bw hrl) rfl fun ct w116 bd=> ?_))))))))
 obtain ⟨bs,L,aK,a7,a8,bx⟩:=bd
 have Z:Wk w w116:=hE21x.trans' bs (fun k hk h=>by omega)
 have hF4:=hF.wk Z
 have hR4:=I.wk Z
 have co:¬(V.cC.ownBlock=some H.rb):=cw hF4.cO hR4.cells (by decide)
 have bt:¬(V.cC.ownBlock=some H.fb):=cw hF4.cO hF4.cells (by decide)
 have hnx:¬(V.cC.ownBlock=some am):=fun h=>by have :=(c7 hF.cO h).2; omega
 refine aj (((Y _ _ (sq (fun _ aF=> ?_)))))
 have A:(fun w'=>Md (fun k=>V.cC.ownBlock=some k) w116 w') w116.drew:=(Md.refl _ _).drew
 refine dH (fun w'=>Md (fun k=>V.cC.ownBlock=some k) w116 w') 10 rfl wide A (a5 0 rfl (fun _=>mv) (fun _=>A) (a5 1 rfl (fun _=>mv) (fun _=>A) (a5 2 rfl (fun _=>nc rfl) (fun _=>A) (a5 3 rfl (fun _=>fa jU rfl) (fun _=>A) (cQ 4 rfl (fun w' a=>ld kP rfl (Md.aE a ((aR hF4.cells).trans rfl) bt)) A (cQ 5 rfl (fun w' a=>dm vH rfl (aK) (fun j aN=>bE.cW ⟨_,Md.aA a a8 hnx⟩ j)) A (fC 6 rfl (by kernel_rfl) (ic qV rfl rfl aK fun b4 w123 ce bb a1=> ?_))))))))
 have hE123:=e8 bb.md
 have hF5:=hF4.wk hE123
 have hR5:=hR4.wk hE123
 have hz5:=(Z.trans hE123).size
 have aL:(fun w'=>Md (fun k=>V.cC.ownBlock=some k) w116 w') w123:=Md.mono hE123 (fun _ _ h=>h.elim)
 refine ⟨aL,?_⟩
 refine fC 7 rfl (by kernel_rfl) (ap qV (hF5.cO) rfl (by omega) rfl (aw.cV a1) (by omega) (a7) (by omega) (by omega) fun aP w124 aO M cs cm=> ?_)
 have hR6:=hR5.own hF5.cO M (by decide)
 have hc6:=M.aA hF5.cells (cw hF5.cO hF5.cells (by decide))
 have hW6:Wk w1 w124:=(ah.trans (Z.trans hE123)).trans' M (fun k hk h=>by have :=(c7 hF5.cO h).1; omega)
 have ar:(fun w'=>Md (fun k=>V.cC.ownBlock=some k) w116 w') w124:=aL.trans' M (fun _ _ h=>h)
 refine ⟨ar,?_⟩
 refine a5 8 rfl (fun _=>nc rfl) (fun _=>ar) (a5 9 rfl (fun _=>fa jU rfl) (fun _=>ar) (cE 10 rfl (by kernel_rfl) (by kernel_rfl) (cj xO rfl rfl (v:=aP) (dU aO) hc6 (by show _ < 13; omega) fun w9 hM9 an=> ?_)))
 have hR7:=hR6.kn hc6 hM9
 have C:Wk w1 w9:=hW6.trans' hM9 (fun k hk h=>by omega)
 refine dG (by kernel_rfl) ?_
 refine tn (aF _ _ (U (fun _ aG=>(p mv (aj (((aG _ _ (rt ?_)))))))))
 refine f1 rfl rfl ?_
 have bG:F.rules.length=V.rn.length:=by have :=hF5.nx.1; rw [List.length_map] at this; exact this.symm
 rcases bx with ⟨q,vn,O,rfl,rfl,bk⟩ | ⟨e,O,hne,rfl⟩
 have bu:World.ownsRow w124 w1.heap.size 127 8 aP (F.rules++ [q]).length (jx ((F.rules++ [q]).zip (V.rn++ [vn]))):=by
  rw [List.zip_append bG,show jx (F.rules.zip V.rn++ [q].zip [vn])=jx (F.rules.zip V.rn)++k3 (q,vn) from by simp [jx],List.length_append]
  exact aO
 have hF7:=dA.pA (x:=q) (vx:=vn) hF5 (bk.wk hE123) M bu hM9 an
 exact ⟨.inl ⟨_,by unfold fw; rw [if_neg h0,if_neg h1,O],rfl,⟨_,vh,hF7,hR7,⟨by simp only [List.length_append,List.length_singleton]; omega,hB.sl,hB.row,hB.kd⟩,C,hkl⟩⟩,C⟩
 exact ⟨.inr ⟨e,by unfold fw; rw [if_neg h0,if_neg h1,O],hne,rfl,hR7.bM⟩,C⟩
end Go.Hb.rD
end
section
set_option maxRecDepth 20000
set_option maxHeartbeats 1000000
namespace Go.Hb.vu
open Go.Hb.du
open Go.Proofs
open Go.Hb.kN Go.Hb.mV Go.Hb.rD Go.Hb.ff Go.Hb.fM Go.Hb.iS Go.Hb.fV Go.Hb.iw Go.Hb.jM Go.Hb.kI Go.Hb.hY Go.Hb.mW Go.Hb.gB Go.Hb.o6 Go.Hb.kL Go.Hb.ly Go.Hb.o5 Go.Hb.mj Go.Hb.gn Go.Hb.fP
theorem drop_nil {α:Type} {l:List α} {k:Nat} (h:l.length≤k):l.drop k= []:=List.drop_eq_nil_of_le h
theorem Io {F:aH} {c:bW} :eA {F with a3:=F.a3++ [c]} =c:=by
 unfold eA
 simp [List.getD_eq_getElem?_getD]
theorem Ex {eof ln x n:Nat} {F:aH} {rows:List Rw} {r:List Tx} (hr:r.length=4) (hk:r.getD 0 []≠dE) (a:r.getD 0 []≠db) (h:eE F (r.getD 1 [])= .ok x) (h1:r.getD 2 []= [89]∨r.getD 2 []= [78]) (h2:dz (r.getD 3 []) 1024= .ok n) (h3:¬1024 < F.rules.length+n):
 eM eof F rows ln r=eF (gF r) eof n {F with a3:=F.a3++ [(⟨x,(if r.getD 0 []=bQ then 2 else 1:Nat),(decide (r.getD 2 []= [89])),F.rules.length,n⟩:bW)]} rows:=by
 rw [zx hr,Hc hk a,Io]
 unfold eM
 rw [h]
 simp only
 rw [if_neg (fun h3=>h1.elim h3.1 h3.2),h2]
 simp only
 rw [if_neg h3]
 all_goals rfl
theorem JZ {eof ln n:Nat} {F:aH} {rows:List Rw} {r:List Tx} (hr:r.length=2) (hk:r.getD 0 []=dE) (h2:dz (r.getD 1 []) 256= .ok n):gJ eof F rows ln r=eF (gF r) eof n F rows:=by
 rw [zw (by omega),hk,Ha]
 unfold gJ
 rw [h2]
 all_goals rfl
theorem CA {eof ln n:Nat} {F:aH} {seen:List Tx} {rows:List Rw} {r:List Tx} (hr:r.length=2) (hk:r.getD 0 []=db) (h0:¬(dQ∈seen∨bQ∈seen)) (h2:dz (r.getD 1 []) 1024= .ok n):gp eof F seen rows ln r=eF (gF r) eof n F rows:=by
 rw [zw (by omega),hk,G9]
 unfold gp
 rw [if_neg h0,h2]
 all_goals rfl
theorem Hi {F:aH} {V:fj} {i o x:Nat} (h5:F.sp.length=5) (hi:i < 5) (j:o=3 +i):(jV F V).set o (bA x)=jV {F with sp:=F.sp.set i x} V:=by
 subst j
 obtain ⟨k,cs,tr,sp,le,p,al,cl,q⟩:=F
 match sp,h5 with
 | [a,b,c,d,e],_=>
   match i,hi with
   | 0,_=>rfl
   | 1,_=>rfl
   | 2,_=>rfl
   | 3,_=>rfl
   | 4,_=>rfl
theorem uJ {s:Tx} (h:s∈cJ):cJ.idxOf s < 5:=by
 have :∀ k∈cJ,cJ.idxOf k < 5:=by decide
 exact this s h
theorem uI {s:Tx} (h:s∈cJ):la s=(cJ.idxOf s:Nat):=if_pos h
section
variable {eof ln:Nat} {F:aH} {seen:List Tx} {rows:List Rw} {r:List Tx}
theorem zq (h:r.getD 0 []∈cJ):bw eof F seen rows ln r=gL F rows ln r:=by unfold bw; rw [if_pos h]
theorem Hl (h:r.getD 0 []=eQ):bw eof F seen rows ln r=gR F seen rows ln r:=by unfold bw; rw [h]; rfl
theorem zp (h:r.getD 0 []=e5):bw eof F seen rows ln r=jG F rows ln r:=by unfold bw; rw [h]; rfl
theorem zr (h:r.getD 0 []=fp):bw eof F seen rows ln r=jK F rows ln r:=by unfold bw; rw [h]; rfl
theorem tx (h:r.getD 0 []=gv):bw eof F seen rows ln r=g7 F rows ln r:=by unfold bw; rw [h]; rfl
theorem zo (h:r.getD 0 []=dE):bw eof F seen rows ln r=gJ eof F rows ln r:=by unfold bw; rw [h]; rfl
theorem qt (h:r.getD 0 []=db):bw eof F seen rows ln r=gp eof F seen rows ln r:=by unfold bw; rw [h]; rfl
theorem Hk (h:r.getD 0 []=dQ∨r.getD 0 []=bQ):bw eof F seen rows ln r=eM eof F rows ln r:=by rcases h with h | h <;> (unfold bw; rw [h]; rfl)
theorem JD {k:Tx} (hw:width k≠0) (h0:k∉cJ) (h1:k≠eQ) (h2:k≠e5) (h3:k≠fp) (h4:k≠gv) (h5:k≠dE) (a:k≠db):k=dQ∨k=bQ:=by
 unfold width at hw
 rw [if_neg (by simp [h0,h1,h2,h3,h4,h5,a])] at hw
 by_cases h:k=dQ∨k=bQ
 · exact h
 · rw [if_neg h] at hw; exact absurd rfl hw
end
theorem dS.eq {w1:World} {H:ea} {seen:List Tx} {X Y:Except (Nat×Nat) (aH×List Rw)} {v:Value} {w:World} (h:dS w1 H seen X v w) (he:Y=X):dS w1 H seen Y v w:=he ▸ h
theorem dS.er {w1:World} {H:ea} {seen:List Tx} {X:Except (Nat×Nat) (aH×List Rw)} {w:World} {l e:Nat} (h:X= .error (l,e)) (he:e≠0) (hl:Hb.aE w.heap H.rb 5=some (.int .i64 (l:Nat))) (hw:Wk w1 w):dS w1 H seen X (.int .i64 (e:Nat)) w:=⟨.inr ⟨l,e,h,he,rfl,hl⟩,hw⟩
theorem tp (w1:World) (H:ea) (F:aH) (k ln:Nat) (seen hd:List Tx) (a2:Nat) (O:Option Addr) (Z n:Nat) (w:World) (ay:GS w1 H) (A:iU w1 w H F k ln seen) (hT:Tg w1 a2 9 hd.length (.slice O hd.length Z) (hd.map str)) (hh:hd.length=2∨hd.length=4) (b6:n≤70000) (hcl:hd.getD 0 []≠dE→hd.getD 0 []≠db→0 < F.a3.length):
 aV Tryz.prog 82 (List.toArray [aI H.rb,.slice O hd.length Z,ae n]) w (dS w1 H seen (eF (gF hd) H.eof n F (H.rows.drop k))):=by
 have am:∀ w,Wk w1 w→bp w.heap O hd:=fun w h=>(hT.wk h).bF.2
 obtain ⟨bv,c0,aY⟩:∃ a c,H.vr= .slice a H.rows.length c:=by obtain ⟨B0,h1,_⟩:=ay; exact h1.slice
 have aK:∀ (w:World) (k l:Nat) (s:List Tx) (vh:Value),eI w w1.heap.size H k l s vh→Hb.aE w.heap H.rb 1=some (.slice bv H.rows.length c0):=fun w k l s vh h=>by rw [← aY]; exact (aR h.cells).trans rfl
 refine enter Tryz.func82 rfl Tryz.ntmps82 rfl ?_
 refine U (fun _ a7=>(aj (((a7 _ _ (sq (fun _ bj=>U (fun _ bk=> ?_))))))))
 refine aj (((bk _ _ (aA (lp (fun aN al wI=> ∃ (i:Nat) (F':aH) (k' aL:Nat),(i≤n)∧(eF (gF hd) H.eof (n - i) F' (H.rows.drop k')=eF (gF hd) H.eof n F (H.rows.drop k))∧(iU w1 wI H F' k' aL seen)∧(F'.a3=F.a3)∧(al 0=aI H.rb)∧(al 1= .slice O hd.length Z)∧(al 2=ae n)∧(al 7=ae i)∧(n - i=aN)) _ ⟨0,F,k,ln,(by omega),rfl,A,rfl,rfl,rfl,rfl,rfl,rfl⟩ ?_)))))
 rintro aN al wI ⟨i,F',k',aL,hi,hX,hSI,hcs,bS,bT,bV,bW,rfl⟩
 refine fx 0 bS (fx 1 bT (fx 2 bV (fx 7 bW ?_)))
 have hSI0:=hSI
 obtain ⟨V,vh,hF,ac,hB,aO,hkl⟩:=hSI
 have b5:H.rows.length≤70000:=by obtain ⟨_,_,_,h⟩:=ay; exact h
 refine sq (fun _ bm=>U (fun _ bq=>(ag (ae i) (ag (ae n) (p (lt rfl rfl) (au ((bq _ _ ?_))))))))
 refine cd rfl (fun bJ=> ?_) (fun bJ=> ?_)
 refine az (tn (bm _ _ (sq (fun _ aq=>aA (sq (fun _ bs=>sq (fun _ bt=> ?_)))))))
 have I:(fun w'=>Wk wI w') wI.drew:=(Md.refl _ _).drew
 refine bD (fun w'=>Wk wI w') rfl wide I (bl 0 rfl (aI H.rb) I (aB 1 rfl (fun _ _=>nc rfl) I (aB 2 rfl (fun _ _=>fa kq rfl) I (aB 3 rfl (fun w' A=>ld bU rfl (Wk.aE A ((aR ac.cells).trans rfl))) I (bl 4 rfl (aI H.rb) I (aB 5 rfl (fun _ _=>nc rfl) I (aB 6 rfl (fun _ _=>fa sZ rfl) I ?_)))))))
 refine aB 7 rfl (fun w' A=>ld rH rfl (Wk.aE A (aK _ _ _ _ _ ac))) I (aB 8 rfl (fun _ _=>bg ri rfl rfl) I (aB 9 rfl (fun _ _=>ge rfl rfl) I (hn (by kernel_rfl) ?_)))
 have hR4:=ac.wk I
 have hF4:=hF.wk I
 have hE4:=aO.trans I
 refine tn (bt _ _ (cd rfl (fun bK=> ?_) (fun bK=> ?_)))
 have hnil:H.rows.drop k'= []:=drop_nil (by omega)
 rw [hnil] at hX
 refine U (fun _ ar=>(ag (aI H.rb) (ag (aI H.rb) (p (nc rfl) (p (fa GC rfl) (p (ld bU rfl ((aR hR4.cells).trans rfl)) (p (nc rfl) ?_)))))))
 refine p (fa kY rfl) (e (cj fW rfl rfl (v:=ae (H.eof)) rfl hR4.cells (by show _ < 6; omega) fun w5 aP bw=> ?_))
 have hR5:=hR4.cT (k':=k') (ln':=H.eof) aP bw
 have bG:Wk w1 w5:=hE4.trans' aP (fun q aU h=>by have :=ac.lo; omega)
 refine au ((ar _ _ (U (fun _ ap=>(aj (((ap _ _ (rt ?_)))))))))
 exact tr (br (tr (tr (br (tr (f1 rfl rfl (dS.er (G7 hX (by omega)) (by decide) hR5.bM bG)))))))
 obtain ⟨J,M,av,ax,b3,c',ao,aZ,hCr,aX,⟨a1,hT1⟩,hvl⟩:=ay.get hE4 (k:=k') (by omega)
 rw [aY] at aZ
 cases aZ
 have hdl:=congrArg List.length ao
 simp only [List.length_cons] at hdl
 rw [ao] at hX
 have hrow:=hB.row (J,M) (by rw [ao]; exact List.mem_cons_self ..)
 have b7:0 < M.length:=List.length_pos_iff.2 hrow.1
 have hbl:=hB.len
 refine az (tn (bs _ _ (sq (fun _ ar=> ?_))))
 have E:(fun w'=>Wk wI.drew w') wI.drew.drew:=(Md.refl _ _).drew
 refine bD (fun w'=>Wk wI.drew w') rfl wide E (bl 0 rfl (aI H.rb) E (aB 1 rfl (fun _ _=>nc rfl) E (aB 2 rfl (fun _ _=>fa sZ rfl) E (aB 3 rfl (fun w' A=>ld rH rfl (Wk.aE A (aK _ _ _ _ _ hR4))) E (bl 4 rfl (aI H.rb) E (aB 5 rfl (fun _ _=>nc rfl) E (aB 6 rfl (fun _ _=>fa kq rfl) E ?_)))))))
 refine aB 7 rfl (fun w' A=>ld bU rfl (Wk.aE A ((aR hR4.cells).trans rfl))) E (aB 8 rfl (fun _ _=>aJ jT rfl rfl (by omega) (aw.ok (hCr) (ir (by omega)))) E (aB 9 rfl (fun _ _=>fa om rfl) E (aB 10 rfl (fun w' A=>ld gi rfl (Wk.aE A (iu hCr aX 1 (by decide)))) E (aB 11 rfl (fun _ _=>ak) E (hn (by kernel_rfl) ?_)))))
 have hR7:=hR4.wk E
 refine tn (ar _ _ (sq (fun _ ap=> ?_)))
 have C:(fun w'=>Wk wI.drew.drew w') wI.drew.drew.drew:=(Md.refl _ _).drew
 refine dH (fun w'=>Wk wI.drew.drew w') 14 rfl wide C (a4 0 rfl (aI H.rb) C (a4 1 rfl (aI H.rb) C (a5 2 rfl (fun _=>nc rfl) (fun _=>C) (a5 3 rfl (fun _=>fa sZ rfl) (fun _=>C) (cQ 4 rfl (fun w' A=>ld rH rfl (Wk.aE A (aK _ _ _ _ _ hR7))) C (a4 5 rfl (aI H.rb) C (a5 6 rfl (fun _=>nc rfl) (fun _=>C) ?_)))))))
 refine a5 7 rfl (fun _=>fa kq rfl) (fun _=>C) (cQ 8 rfl (fun w' A=>ld bU rfl (Wk.aE A ((aR hR7.cells).trans rfl))) C (a5 9 rfl (fun _=>aJ jT rfl rfl (by omega) (aw.ok (hCr) (ir (by omega)))) (fun _=>C) (a5 10 rfl (fun _=>fa ng rfl) (fun _=>C) (cQ 11 rfl (fun w' A=>ld bU rfl (Wk.aE A (iu (aw.wk hCr E) aX 0 (by decide)))) C (a5 12 rfl (fun _=>nc rfl) (fun _=>C) (a5 13 rfl (fun _=>fa kY rfl) (fun _=>C) (cE 14 rfl (by kernel_rfl) (by kernel_rfl) (cj fW rfl rfl (v:=ae J) rfl (hR7.wk C).cells (by show _ < 6; omega) fun w8 aD bx=> ?_))))))))
 have hR8:=(hR7.wk C).cT (k':=k') (ln':=J) aD bx
 have hF8:=((hF4.wk E).wk C).rb (hR7.wk C) aD
 have bI:Wk w1 w8:=((hE4.trans E).trans C).trans' aD (fun q aU h=>by have :=ac.lo; omega)
 refine dG (by kernel_rfl) ?_
 refine tn (ap _ _ (U (fun _ bb=>(ag (aI H.rb) (ag (aI H.rb) (p (nc rfl) (p (fa kq rfl) (p (ld bU rfl ((aR hR8.cells).trans rfl)) ?_))))))))
 refine p (ba ((k'+1:Nat):Int) rfl rfl (aQ (by omega) (by omega))) (p (nc rfl) (p (fa kq rfl) (e (cj fW rfl rfl (v:=(ae (k'+1))) rfl hR8.cells (by show _ < 6; omega) fun w9 hM9 bA=> ?_))))
 have hR9:=hR8.cT (k':=k'+1) (ln':=J) hM9 bA
 have hF9:=hF8.rb hR8 hM9
 have aa:Wk w1 w9:=bI.trans' hM9 (fun q aU h=>by have :=ac.lo; omega)
 refine au ((bb _ _ (sq (fun _ bf=>sq (fun _ bh=> ?_)))))
 have G:(fun w'=>Wk w9 w') w9.drew:=(Md.refl _ _).drew
 refine bD (fun w'=>Wk w9 w') rfl wide G (aB 0 rfl (fun _ _=>mv) G (aB 1 rfl (fun _ _=>aJ bC rfl rfl (by omega) (aw.ok ((hT1.wk aa).bF.2) (bo (by omega)))) G (aB 2 rfl (fun w' A=>ld bz rfl (Wk.aE A (bp.get (i:=0) (hT1.wk aa).bF.2 (by omega)))) G (bl 3 rfl (.slice O hd.length Z) G (aB 4 rfl (fun _ _=>aJ bC rfl rfl (by omega) (aw.ok (am _ aa) (bo (by omega)))) G (aB 5 rfl (fun w' A=>ld bz rfl (Wk.aE A (bp.get (i:=0) (am _ aa) (by omega)))) G (aB 6 rfl (fun _ _=>jZ rfl rfl) G ?_)))))))
 refine hn (by kernel_rfl) ?_
 have hW10:=aa.trans G
 refine tn (bh _ _ (cd rfl (fun aF=> ?_) (fun aF=> ?_)))
 have h0:M.getD 0 []≠hd.getD 0 []:=aF
 refine U (fun _ Y=>(aj (((Y _ _ (rt (tr (br ?_))))))))
 exact tr (tr (br (tr (f1 rfl rfl (dS.er (tk hX (by omega) (HD h0)) (by decide) (hR9.wk G).bM hW10)))))
 have h0:M.getD 0 []=hd.getD 0 []:=Classical.not_not.1 aF
 refine az (tn (bf _ _ ?_))
 refine c6 (fun ah aM=>(M.take (gF hd).length=gF hd)∧(Wk w9 aM)∧(ah 0=aI H.rb)∧(ah 1= .slice O hd.length Z)∧(ah 2=ae n)∧(ah 7=ae i)∧(ah 8= .slice av M.length ax)) ?_ ?_
 refine sq (fun _ Y=> ?_)
 have j:(fun w'=>Wk w9.drew w') w9.drew.drew:=(Md.refl _ _).drew
 refine bD (fun w'=>Wk w9.drew w') rfl wide j (bl 0 rfl (.slice O hd.length Z) j (aB 1 rfl (fun _ _=>bg dy rfl rfl) j (aB 2 rfl (fun _ _=>bd rfl rfl) j (aB 3 rfl (fun _ _=>mv) j (iN (t:=75) rfl (fun bN=> ?_) (fun bN=> ?_))))))
 refine a8 4 rfl (by kernel_rfl) rfl rfl rfl (fun _ _=>mv) j (a8 5 rfl (by kernel_rfl) rfl rfl rfl (fun _ _=>bg dy rfl rfl) j (a8 6 rfl (by kernel_rfl) rfl rfl rfl (fun _ _=>lt rfl rfl) j (a8 7 rfl (by kernel_rfl) rfl rfl rfl (fun _ _=>mv) j (iN (t:=79) rfl (fun bO=> ?_) (fun bO=> ?_)))))
 refine a9 8 rfl (by kernel_rfl) rfl rfl rfl rfl j ?_
 refine a9 9 rfl (by kernel_rfl) rfl rfl rfl rfl j ?_
 refine a9 10 rfl (by kernel_rfl) rfl rfl rfl rfl j ?_
 refine a9 11 rfl (by kernel_rfl) rfl rfl rfl rfl j ?_
 refine a9 12 rfl (by kernel_rfl) rfl rfl rfl rfl j ?_
 refine a9 13 rfl (by kernel_rfl) rfl rfl rfl rfl j ?_
 refine a9 14 rfl (by kernel_rfl) rfl rfl rfl rfl j ?_
 refine a8 15 rfl (by kernel_rfl) rfl rfl rfl (fun _ _=>bc rfl) j (aB 16 rfl (fun _ _=>bc rfl) j (hn (by kernel_rfl) (tn (Y _ _ (ct rfl (U (fun _ ai=>(p ak ?_))))))))
 refine au ((ai _ _ (rt (tr (br (tr (tr (br ?_))))))))
 exact tr (f1 rfl rfl (dS.er (tk hX (by omega) (zz (by omega) (.inl (by omega)))) (by decide) ((hR9.wk G).wk j).bM (hW10.trans j)))
 refine a8 8 rfl (by kernel_rfl) rfl rfl rfl (fun _ _=>mv) j (a8 9 rfl (by kernel_rfl) rfl rfl rfl (fun _ _=>aJ bC rfl rfl (by omega) (aw.ok ((hT1.wk hW10).bF.2) (bo (by omega)))) j (a8 10 rfl (by kernel_rfl) rfl rfl rfl (fun w' A=>ld bz rfl (Wk.aE A (bp.get (i:=1) (hT1.wk hW10).bF.2 (by omega)))) j (a8 11 rfl (by kernel_rfl) rfl rfl rfl (fun _ _=>aC (.slice O hd.length Z) rfl) j (a8 12 rfl (by kernel_rfl) rfl rfl rfl (fun _ _=>aJ bC rfl rfl (by omega) (aw.ok (am _ hW10) (bo (by omega)))) j (a8 13 rfl (by kernel_rfl) rfl rfl rfl (fun w' A=>ld bz rfl (Wk.aE A (bp.get (i:=1) (am _ hW10) (by omega)))) j (a8 14 rfl (by kernel_rfl) rfl rfl rfl (fun _ _=>jZ rfl rfl) j (a8 15 rfl (by kernel_rfl) rfl rfl rfl (fun _ _=>a6 rfl) j ?_)))))))
 refine aB 16 rfl (fun _ _=>bc rfl) j (hn (by kernel_rfl) (tn (Y _ _ (cd rfl (fun aG=> ?_) (fun aG=> ?_)))))
 refine U (fun _ ai=>(aj (((ai _ _ (rt (tr (br ?_))))))))
 exact tr (tr (br (tr (f1 rfl rfl (dS.er (tk hX (by omega) (zz (by omega) (.inr aG))) (by decide) ((hR9.wk G).wk j).bM (hW10.trans j))))))
 exact az (tn (⟨(zA h0 hrow.1 (fun _=>⟨by omega,Classical.not_not.1 aG⟩)),(G.trans j),rfl,rfl,rfl,rfl,rfl⟩))
 refine a9 4 rfl (by kernel_rfl) rfl rfl rfl rfl j ?_
 refine a9 5 rfl (by kernel_rfl) rfl rfl rfl rfl j ?_
 refine a9 6 rfl (by kernel_rfl) rfl rfl rfl rfl j ?_
 refine a9 7 rfl (by kernel_rfl) rfl rfl rfl rfl j ?_
 refine mC 8 rfl (by kernel_rfl) rfl rfl rfl j ?_
 refine mC 9 rfl (by kernel_rfl) rfl rfl rfl j ?_
 refine mC 10 rfl (by kernel_rfl) rfl rfl rfl j ?_
 refine mC 11 rfl (by kernel_rfl) rfl rfl rfl j ?_
 refine mC 12 rfl (by kernel_rfl) rfl rfl rfl j ?_
 refine mC 13 rfl (by kernel_rfl) rfl rfl rfl j ?_
 refine mC 14 rfl (by kernel_rfl) rfl rfl rfl j ?_
 refine a9 15 rfl (by kernel_rfl) rfl rfl rfl rfl j ?_
 exact aB 16 rfl (fun _ _=>a6 rfl) j (hn (by kernel_rfl) (tn (Y _ _ (cf rfl (az (tn (⟨(zA h0 hrow.1 (fun h=>absurd h (by omega))),(G.trans j),rfl,rfl,rfl,rfl,rfl⟩)))))))
 rintro ah aM ⟨aW,an,bX,bY,bZ,b0,b1⟩
 refine fx 0 bX (fx 1 bY (fx 2 bZ (fx 7 b0 (fx 8 b1 (U (fun _ Y=>(ag (aI H.rb) (ag (.slice av M.length ax) (e (cl C3 (Hf w1 H F' (k'+1) J seen M a1 av ax aM ⟨V,vh,hF9.wk an,hR9.wk an,j6.kV (ao ▸ hB),aa.trans an,by omega⟩ (hT1.wk (aa.trans an)) hrow.1 hrow.2.2 (by omega) (fun h1 h2=>by rw [hcs]; exact hcl (h0 ▸ h1) (h0 ▸ h2))) rfl fun b2 a0 bB=> ?_))))))))))
 obtain ⟨bQ,hW91⟩:=bB
 obtain ⟨b4,rfl,aT⟩:∃ e:Nat,b2=ae e∧((e=0∧∃ ab,fw F' J M= .ok ab∧iU w1 a0 H ab (k'+1) J seen)∨(e≠0∧fw F' J M= .error e∧Hb.aE a0.heap H.rb 5=some (ae J))):=by
  rcases bQ with ⟨ab,h1,h2,h3⟩ | ⟨e,h1,h2,h3,h4⟩
  exact ⟨0,h2,.inl ⟨rfl,ab,h1,h3⟩⟩
  exact ⟨e,h3,.inr ⟨h2,h1,h4⟩⟩
 refine aj (((Y _ _ (U (fun _ ai=>(p mv (p (bH rfl rfl) (nl ?_))))))))
 refine tn (ai _ _ (cd rfl (fun bL=> ?_) (fun bL=> ?_)))
 obtain ⟨hne,bP,bR⟩:=aT.resolve_left (fun h=>by omega)
 refine U (fun _ bi=>(p mv (aj (((bi _ _ (rt (br ?_))))))))
 exact tr (tr (br (tr (f1 rfl rfl (dS.er (G5 hX (by omega) aW bP) hne bR hW91)))))
 obtain ⟨_,ab,aS,bE⟩:=aT.resolve_right (fun h=>by omega)
 refine az (bn (tn (aq _ _ (rg rfl (ag (ae i) (p (ad rfl rfl (bu (by omega))) (p ak (nl ?_))))))))
 exact tn (⟨_,by omega,i+1,ab,k'+1,J,(by omega),((by rw [show n - (i+1)=n - i - 1 by omega]; exact G8 hX (by omega) aW aS)),bE,((He aS).1.trans hcs),rfl,rfl,rfl,rfl,rfl⟩)
 refine ext (te _ (te _ (be (tn (bj _ _ (U (fun _ aq=>(p ak ?_))))))))
 refine au ((aq _ _ (rt (f1 rfl rfl ?_))))
 rw [show n - i=0 by omega] at hX
 exact ⟨.inl ⟨F',k',aL,G6 hX,rfl,hSI0⟩,aO⟩
theorem GW (w1:World) (H:ea) (F:aH) (k ln:Nat) (seen r:List Tx) (aK:Nat) (A:Option Addr) (C:Nat) (w:World) (bi:GS w1 H) (q:iU w1 w H F k ln seen) (hT:Tg w1 aK 9 r.length (.slice A r.length C) (r.map str)) (hrl:∀ x∈r,x.length≤70000) (b2:F.bN.length+F.aliases.length+F.a3.length+F.rules.length+(H.rows.drop k).length < 70000) (hr:r.length=4) (aD:r.getD 0 []=dQ∨r.getD 0 []=bQ):
 aV Tryz.prog 83 (List.toArray [aI H.rb,.slice A r.length C]) w (dS w1 H seen (eM H.eof F (H.rows.drop k) ln r)):=by
 have hS0:=q
 obtain ⟨V,vh,hF,G,hB,M,hkl⟩:=q
 have E:∀ w,Wk w1 w→bp w.heap A r:=fun w h=>(hT.wk h).bF.2
 have hlo:=G.lo
 have hflo:=hF.lo
 have hbl:=hB.len
 have hbs:=hB.sl
 have hrbl:=(Array.getElem?_eq_some_iff.1 G.cells).1
 have bG:r.getD 0 []≠dE:=by rcases aD with h | h <;> rw [h] <;> decide
 have bI:r.getD 0 []≠db:=by rcases aD with h | h <;> rw [h] <;> decide
 have hr1:(r.getD 1 []).length≤70000:=hrl _ (c5 (by omega))
 have b7:(r.getD 3 []).length≤70000:=hrl _ (c5 (by omega))
 obtain ⟨a8,gr,bY⟩:=b0 hF.cO
 have aO:Hb.aE w.heap H.fb 12=some (.slice a8 F.rules.length gr):=by rw [← bY]; exact (aR hF.cells).trans rfl
 refine enter Tryz.func83 rfl Tryz.ntmps83 rfl ?_
 refine U (fun _ aX=>(aj (((aX _ _ (U (fun _ aZ=>(ag (aI H.rb) ?_))))))))
 refine ag (.slice A r.length C) (p (aJ bC rfl rfl (by omega) (aw.ok (E _ M) (bo (by omega)))) (p (ld bz rfl (bp.get (i:=1) (E _ M) (by omega))) (e (cl xw (zk w1.heap.size H F V k ln seen vh (r.getD 1 []) w hF G hB.kd (by omega) (by omega)) rfl fun b9 w14 bm=> ?_))))
 obtain ⟨⟨x,aq,rfl,hfr⟩,hE14⟩:=bm
 have hW14:=M.trans hE14
 refine p mv (p (xt rfl rfl) (p (xt rfl rfl) (p ak (aj (((aZ _ _ (sq (fun _ a0=> ?_)))))))))
 refine U (fun _ a1=>(p mv (p (bH rfl rfl) (au ((a1 _ _ (cd rfl (fun hc18=> ?_) (fun hc18=> ?_))))))))
 have aS:eE F (r.getD 1 [])= .error aq∧aq≠0:=by
  rcases hfr with ⟨_,_,h⟩ | h
  omega
  exact h
 refine U (fun _ J=>(p mv (aj (((J _ _ (rt (tr ?_))))))))
 exact f1 rfl rfl (dS.er (sn aS.1) aS.2 (G.wk hE14).bM hW14)
 obtain ⟨ah,hx0,_⟩:eE F (r.getD 1 [])= .ok x∧x≠0∧aq=0:=by
  rcases hfr with h | ⟨_,h⟩
  exact h
  omega
 refine az (tn (a0 _ _ ?_))
 refine c6 (fun ai aG=>(r.getD 2 []= [89]∨r.getD 2 []= [78])∧(aG=w14)∧(ai 0=aI H.rb)∧(ai 1= .slice A r.length C)∧(ai 5=bA x)) ?_ ?_
 refine U (fun _ J=>(ag (.slice A r.length C) (p (aJ bC rfl rfl (by omega) (aw.ok (E _ hW14) (bo (by omega)))) (p (ld bz rfl (bp.get (i:=2) (E _ hW14) (by omega))) (p (jZ rfl rfl) (p mv (gs (t:=24) rfl (fun ay=> ?_) (fun ay=> ?_))))))))
 refine pg rfl rfl rfl (aC (.slice A r.length C) rfl) (pg rfl rfl rfl (aJ bC rfl rfl (by omega) (aw.ok (E _ hW14) (bo (by omega)))) (pg rfl rfl rfl (ld bz rfl (bp.get (i:=2) (E _ hW14) (by omega))) (pg rfl rfl rfl (jZ rfl rfl) (p (bc rfl) (au ((J _ _ (cd rfl (fun av=> ?_) (fun av=> ?_)))))))))
 refine U (fun _ an=>(aj (((an _ _ (rt (tr (f1 rfl rfl ?_))))))))
 exact dS.er (sr ah ay av) (by decide) (G.wk hE14).bM hW14
 exact az (tn (⟨(.inr (Classical.not_not.1 av)),rfl,rfl,rfl,rfl⟩))
 refine sk rfl rfl rfl rfl (sk rfl rfl rfl rfl (sk rfl rfl rfl rfl (sk rfl rfl rfl rfl (p (a6 rfl) (au ((J _ _ (cf rfl ?_))))))))
 exact az (tn (⟨(.inl (Classical.not_not.1 ay)),rfl,rfl,rfl,rfl⟩))
 rintro ai aG ⟨aF,bZ,bL,bO,bP⟩
 refine fx 0 bL (fx 1 bO (fx 5 bP ?_))
 subst bZ
 have hW6:=hW14
 refine U (fun _ J=>(ag (.slice A r.length C) (p (aJ bC rfl rfl (by omega) (aw.ok (E _ hW6) (bo (by omega)))) (p (ld bz rfl (bp.get (i:=3) (E _ hW6) (by omega))) (e (cl mu (mK (r.getD 3 []) 1024 aG (by omega) (by omega)) rfl fun ca O bn=> ?_))))))
 obtain ⟨rfl,hE34⟩:=bn
 have hW34:=hW6.trans hE34
 have hE34x:=hE14.trans hE34
 have hnle:=lZ (r.getD 3 []) 1024
 refine p mv (p (xt rfl rfl) (p (xt rfl rfl) (p ak (aj (((J _ _ (sq (fun _ an=> ?_)))))))))
 refine U (fun _ a2=>(p mv (p (bH rfl rfl) (au ((a2 _ _ (cd rfl (fun bv=> ?_) (fun bv=> ?_))))))))
 refine U (fun _ ao=>(p mv (aj (((ao _ _ (rt (tr ?_))))))))
 refine f1 rfl rfl ?_
 have h13:=k8 (s:=r.getD 3 []) (most:=1024) (by omega)
 show dS w1 H seen _ (.int .i64 (cH (r.getD 3 []) 1024).2) O
 rw [h13.2]
 exact dS.er (xC ah aF h13.1) (by decide) (G.wk hE34x).bM hW34
 have hnx:=j0 (by omega :(cH (r.getD 3 []) 1024).2=0)
 have hnl:=hnle (by omega)
 obtain ⟨n,hn0⟩:∃ n,n=(cH (r.getD 3 []) 1024).1:=⟨_,rfl⟩
 rw [← hn0] at hnx hnl
 refine az (tn (an _ _ (sq (fun _ ao=>U (fun _ a7=>(ag (aI H.rb) (p (nc rfl) (p (fa ik rfl) ?_))))))))
 refine p (ld ib rfl ((aR (G.wk hE34x).cells).trans rfl)) (p (nc rfl) (p (fa jU rfl) (p (ld kP rfl (Wk.aE hE34x aO)) (p (bg uQ rfl rfl) (p mv (p (ba ((F.rules.length+(cH (r.getD 3 []) 1024).1:Nat):Int) rfl rfl (aQ (by omega) (by omega))) (p (gt rfl rfl) ?_)))))))
 refine au ((a7 _ _ (cd rfl (fun bw=> ?_) (fun bw=> ?_))))
 refine U (fun _ al=>(aj (((al _ _ (rt (tr (f1 rfl rfl ?_))))))))
 exact dS.er (xD ah aF hnx (by omega)) (by decide) (G.wk hE34x).bM hW34
 refine az (tn (ao _ _ (sq (fun _ al=> ?_))))
 have a:(fun w'=>Wk O w') O.drew:=(Md.refl _ _).drew
 refine bD (fun w'=>Wk O w') rfl wide a (bl 0 rfl (bA x) a (bl 1 rfl (.slice A r.length C) a (aB 2 rfl (fun _ _=>aJ bC rfl rfl (by omega) (aw.ok (E _ hW34) (bo (by omega)))) a (aB 3 rfl (fun w' q=>ld bz rfl (Wk.aE q (bp.get (i:=2) (E _ hW34) (by omega)))) a (aB 4 rfl (fun _ _=>cM rfl rfl) a (bl 5 rfl (aI H.rb) a (aB 6 rfl (fun _ _=>nc rfl) a ?_)))))))
 refine aB 7 rfl (fun _ _=>fa ik rfl) a (aB 8 rfl (fun w' q=>ld ib rfl (Wk.aE q ((aR (G.wk hE34x).cells).trans rfl))) a (aB 9 rfl (fun _ _=>nc rfl) a (aB 10 rfl (fun _ _=>fa jU rfl) a (aB 11 rfl (fun w' q=>ld kP rfl (Wk.aE q (Wk.aE hE34x aO))) a (aB 12 rfl (fun _ _=>bg uQ rfl rfl) a (aB 13 rfl (fun _ _=>mv) a (aB 14 rfl (fun _ _=>bV (ps:= [(0,bA x),(1,ae 2),(2,.bool (decide (r.getD 2 []= [89]))),(3,ae (F.rules.length)),(4,ae ((cH (r.getD 3 []) 1024).1))]) (L:= [bA x,ae 2,.bool (decide (r.getD 2 []= [89])),ae (F.rules.length),ae ((cH (r.getD 3 []) 1024).1)]) Bs rfl (rfl)) a ?_)))))))
 refine he 15 rfl (by kernel_rfl) (fQ mQ fun b8 w8 hb8 ac bd=> ?_)
 have hz8:=ac.size
 have hz11:=a.size
 have br:(fun w'=>Wk O w') w8:=a.trans ac.md
 refine ⟨br,?_⟩
 refine he 16 rfl (by kernel_rfl) (gd lL rfl rfl rfl rfl bd (by decide) fun w11 aL a9=> ?_)
 have aa:Wk w w11:=(hE34x.trans (a.trans ac.md)).trans' aL (fun k hk h=>by have :=hE34x.size; omega)
 have aP:w11.heap[b8]? =some (.cells [bA x,ae 2,.bool (decide (r.getD 2 []= [89])),ae (F.rules.length),ae n].toArray 129 (0,0)):=by rw [hn0]; exact a9
 have aN:w.heap.size≤b8:=by have :=hE34x.size; omega
 have bs:(fun w'=>Wk O w') w11:=(a.trans ac.md).trans' aL (fun k hk h=>by omega)
 refine ⟨bs,?_⟩
 refine hn (by kernel_rfl) (tn (al _ _ ?_))
 refine c6 (fun Y I=>(I.heap[b8]? =some (.cells [bA x,.int .i64 ((if r.getD 0 []=bQ then 2 else 1:Nat):Nat),.bool (decide (r.getD 2 []= [89])),ae (F.rules.length),ae n].toArray 129 (0,0)))∧(Wk w I)∧(w.heap.size≤b8)∧(Y 0=aI H.rb)∧(Y 1= .slice A r.length C)∧(Y 5=bA x)∧(Y 7=ae n)∧(Y 8=aI b8)) ?_ ?_
 refine U (fun _ am=>(ag (.slice A r.length C) (p (aJ bC rfl rfl (by omega) (aw.ok (E _ (M.trans aa)) (bo (by omega)))) (p (ld bz rfl (bp.get (i:=0) (E _ (M.trans aa)) (by omega))) (p (cM rfl rfl) (au ((am _ _ ?_))))))))
 refine cd rfl (fun ax=> ?_) (fun ax=> ?_)
 exact rg rfl (p (fa qh rfl) (e (cj fW rfl rfl (v:=ae 1) rfl aP (by show _ < 5; omega) fun w13 bj bb=>au ((⟨((by rw [if_neg (show ¬r.getD 0 []=bQ from fun h=>by have h2:r.getD 0 []=dQ:=ax; rw [h2] at h; exact absurd h (by decide))]; exact bb)),((aa.trans' bj (fun k hk h=>by omega))),aN,rfl,rfl,rfl,(by rw [hn0]; rfl),rfl⟩)))))
 exact az (tn (⟨((by rw [if_pos (aD.resolve_left ax)]; exact aP)),aa,aN,rfl,rfl,rfl,(by rw [hn0]; rfl),rfl⟩))
 rintro Y I ⟨bx,ab,b6,bR,bS,bT,bU,bX⟩
 refine fx 0 bR (fx 1 bS (fx 5 bT (fx 7 bU (fx 8 bX ?_))))
 have hF13:=hF.wk ab
 have hR13:=G.wk ab
 have aT:¬(V.v11.ownBlock=some H.rb):=cw hF13.dp hR13.cells (by decide)
 have bJ:¬(V.v11.ownBlock=some H.fb):=cw hF13.dp hF13.cells (by decide)
 have bB:¬(V.v11.ownBlock=some b8):=fun h=>by have :=(c7 hF.dp h).2; omega
 refine sq (fun _ am=> ?_)
 have hS14:(fun w'=>Md (fun k=>V.v11.ownBlock=some k) I w') I.drew:=(Md.refl _ _).drew
 refine dH (fun w'=>Md (fun k=>V.v11.ownBlock=some k) I w') 16 rfl wide hS14 (a4 0 rfl (aI H.rb) hS14 (a5 1 rfl (fun _=>nc rfl) (fun _=>hS14) (a5 2 rfl (fun _=>fa ik rfl) (fun _=>hS14) (cQ 3 rfl (fun w' q=>ld ib rfl (Md.aE q ((aR hR13.cells).trans rfl) aT)) hS14 (a4 4 rfl (aI H.rb) hS14 (a5 5 rfl (fun _=>nc rfl) (fun _=>hS14) (a5 6 rfl (fun _=>fa ik rfl) (fun _=>hS14) ?_)))))))
 refine cQ 7 rfl (fun w' q=>ld ib rfl (Md.aE q ((aR hR13.cells).trans rfl) aT)) hS14 (a5 8 rfl (fun _=>nc rfl) (fun _=>hS14) (a5 9 rfl (fun _=>fa kW rfl) (fun _=>hS14) (cQ 10 rfl (fun w' q=>ld lC rfl (Md.aE q ((aR hF13.cells).trans rfl) bJ)) hS14 (cQ 11 rfl (fun w' q=>dm mX rfl (rfl) (fun j b5=>bE.cW ⟨_,Md.aA q bx bB⟩ j)) hS14 (fC 12 rfl (by kernel_rfl) (ic Bf rfl rfl rfl fun b1 w83 b3 bk bf=> ?_))))))
 have hE83:=e8 bk.md
 have hF14:=hF13.wk hE83
 have hR14x:=hR13.wk hE83
 have hz83:=(ab.trans hE83).size
 have aM:(fun w'=>Md (fun k=>V.v11.ownBlock=some k) I w') w83:=Md.mono hE83 (fun _ _ h=>h.elim)
 refine ⟨aM,?_⟩
 refine fC 13 rfl (by kernel_rfl) (ap Bf (hF14.dp) rfl (by omega) rfl (aw.cV bf) (rfl) (rfl) (by omega) (by omega) fun aW w84 aU Z hz84 b4=> ?_)
 have hR15:=hR14x.own hF14.dp Z (by decide)
 have hc15:=Z.aA hF14.cells (cw hF14.dp hF14.cells (by decide))
 have bK:World.ownsRow w84 w1.heap.size 129 5 aW (F.a3++ [(⟨x,(if r.getD 0 []=bQ then 2 else 1:Nat),(decide (r.getD 2 []= [89])),F.rules.length,n⟩:bW)]).length (lS (F.a3++ [(⟨x,(if r.getD 0 []=bQ then 2 else 1:Nat),(decide (r.getD 2 []= [89])),F.rules.length,n⟩:bW)])):=by rw [show lS (F.a3++ [(⟨x,(if r.getD 0 []=bQ then 2 else 1:Nat),(decide (r.getD 2 []= [89])),F.rules.length,n⟩:bW)])=lS F.a3++jw (⟨x,(if r.getD 0 []=bQ then 2 else 1:Nat),(decide (r.getD 2 []= [89])),F.rules.length,n⟩:bW) from by simp [lS],List.length_append]; exact aU
 have bt:Wk w1 w84:=(M.trans (ab.trans hE83)).trans' Z (fun k hk h=>by have :=(c7 hF14.dp h).1; omega)
 have ar:(fun w'=>Md (fun k=>V.v11.ownBlock=some k) I w') w84:=aM.trans' Z (fun _ _ h=>h)
 refine ⟨ar,?_⟩
 refine a5 14 rfl (fun _=>nc rfl) (fun _=>ar) (a5 15 rfl (fun _=>fa kW rfl) (fun _=>ar) (cE 16 rfl (by kernel_rfl) (by kernel_rfl) (cj Ft rfl rfl (v:=aW) (dU aU) hc15 (by show _ < 13; omega) fun w9 hM9 bh=> ?_)))
 have hF16:=dA.rM (x:=(⟨x,(if r.getD 0 []=bQ then 2 else 1:Nat),(decide (r.getD 2 []= [89])),F.rules.length,n⟩:bW)) hF14 Z bK hM9 bh
 have hR16:=hR15.kn hc15 hM9
 have bu:Wk w1 w9:=bt.trans' hM9 (fun k hk h=>by omega)
 refine dG (by kernel_rfl) ?_
 refine tn (am _ _ (U (fun _ aY=>(ag (aI H.rb) (ag (.slice A r.length C) (ag (ae n) (e (cl sc (tp w1 H {F with a3:=F.a3++ [(⟨x,(if r.getD 0 []=bQ then 2 else 1:Nat),(decide (r.getD 2 []= [89])),F.rules.length,n⟩:bW)]} k ln seen r aK A C n w9 bi ⟨_,vh,hF16,hR16,⟨by simp only [List.length_append,List.length_singleton]; omega,hbs,hB.row,hB.kd⟩,bu,hkl⟩ hT (.inr hr) (by omega) (fun _ _=>by simp only [List.length_append,List.length_singleton]; omega)) rfl fun cb cc bq=>p ak ?_))))))))
 exact au ((aY _ _ (rt (f1 rfl rfl (dS.eq bq (Ex hr bG bI ah aF hnx (by omega)))))))
theorem Hd (w1:World) (H:ea) (F:aH) (k ln:Nat) (seen r:List Tx) (ai:Nat) (q:Option Addr) (A:Nat) (w:World) (aB:GS w1 H) (ah:iU w1 w H F k ln seen) (hT:Tg w1 ai 9 r.length (.slice q r.length A) (r.map str)) (hrl:∀ x∈r,x.length≤70000) (bx:F.bN.length+F.aliases.length+F.a3.length+F.rules.length+(H.rows.drop k).length < 70000) (hw:r.length=width (r.getD 0 [])) (bI:width (r.getD 0 [])≠0):
 aV Tryz.prog 43 (List.toArray [aI H.rb,.slice q r.length A]) w (dS w1 H seen (bw H.eof F seen (H.rows.drop k) ln r)):=by
 have hS0:=ah
 obtain ⟨V,vh,hF,j,hB,a,hkl⟩:=ah
 have C:∀ w,Wk w1 w→bp w.heap q r:=fun w h=>(hT.wk h).bF.2
 have hlo:=j.lo
 have hflo:=hF.lo
 have hbl:=hB.len
 have hbs:=hB.sl
 have hrbl:=(Array.getElem?_eq_some_iff.1 j.cells).1
 have hrl0:0 < r.length:=by omega
 have hr1:2≤r.length→(r.getD 1 []).length≤70000:=fun h=>hrl _ (c5 (by omega))
 refine enter Tryz.func43 rfl Tryz.ntmps43 rfl ?_
 refine U (fun _ aZ=>(aj (((aZ _ _ (U (fun _ a1=>(ag (.slice q r.length A) ?_))))))))
 refine p (aJ bC rfl rfl (by omega) (aw.ok (C _ a) (bo (by omega)))) (p (ld bz rfl (bp.get (i:=0) (C _ a) (by omega))) (aj (((a1 _ _ (U (fun _ a7=>(p mv ?_))))))))
 refine e (cl r9 (tv (r.getD 0 []) w) rfl fun b6 Y bm=> ?_)
 obtain ⟨rfl,bL⟩:=bm
 subst bL
 refine aj (((a7 _ _ (sq (fun _ a8=>U (fun _ a9=>(p mv (p (ge rfl rfl) ?_))))))))
 refine au ((a9 _ _ (cd rfl (fun aL=> ?_) (fun aL=> ?_))))
 have hsp:=nA.1 aL
 have G:r.length=2:=by rw [hw,BV hsp]
 have hr1:=hr1 (by omega)
 refine U (fun _ ar=>(ag (aI H.rb) (ag (.slice q r.length A) (p (aJ bC rfl rfl (by omega) (aw.ok (C _ a) (bo (by omega)))) (p (ld bz rfl (bp.get (i:=1) (C _ a) (by omega))) (e (cl xw (zk w1.heap.size H F V k ln seen vh (r.getD 1 []) Y hF j hB.kd (by omega) (by omega)) rfl fun b7 ch bq=> ?_)))))))
 obtain ⟨⟨x,bY,rfl,hfr⟩,hE32⟩:=bq
 have hW32:=a.trans hE32
 refine p mv (p (xt rfl rfl) (p (xt rfl rfl) (p ak (aj (((ar _ _ (sq (fun _ av=> ?_)))))))))
 refine rg rfl (ag (aI H.rb) (p (nc rfl) (p (fa ik rfl) (p (ld ib rfl ((aR (j.wk hE32).cells).trans rfl)) (p mv (p mv (p (nc rfl) ?_)))))))
 refine p (fa qg rfl) (p (il pB rfl rfl (by rw [uI hsp]; have :=uJ hsp; omega)) (e (cj fW rfl rfl (v:=bA x) rfl (hF.wk hE32).cells (by show 0 +3 +(la (r.getD 0 [])).toNat*1 < 13; rw [uI hsp]; have :=uJ hsp; omega) fun w5 aC ba=> ?_)))
 have hset:=Hi (F:=F) (V:=V) (x:=x) (o:=0 +3 +(la (r.getD 0 [])).toNat*1) hF.ee (uJ hsp) (by rw [uI hsp]; omega)
 have bb:w5.heap[H.fb]? =some (.cells (jV {F with sp:=F.sp.set (cJ.idxOf (r.getD 0 [])) x} V).toArray 120 (0,0)):=by rw [← hset]; exact ba
 have hF5:=(hF.wk hE32).put (F':= {F with sp:=F.sp.set (cJ.idxOf (r.getD 0 [])) x}) aC bb rfl rfl rfl rfl (by show (F.sp.set _ _).length=5; rw [List.length_set]; exact hF.ee)
 have hR5:=(j.wk hE32).fb (hF.wk hE32) aC
 have aD:Wk w1 w5:=hW32.trans' aC (fun k hk h=>by omega)
 refine au ((av _ _ (U (fun _ ax=>(p mv (aj (((ax _ _ ?_)))))))))
 refine rt (tr (f1 rfl rfl ?_))
 rcases hfr with ⟨aT,_,rfl⟩ | ⟨aT,hne⟩
 exact ⟨.inl ⟨_,k,ln,(zq hsp).trans (Bl aT),rfl,⟨V,vh,hF5,hR5,⟨hB.len,hbs,hB.row,hB.kd⟩,aD,hkl⟩⟩,aD⟩
 exact dS.er ((zq hsp).trans (Bk aT)) hne hR5.bM aD
 have bO:r.getD 0 []∉cJ:=fun h=>aL (nA.2 h)
 refine az (tn (a8 _ _ (sq (fun _ ar=>U (fun _ av=>(p mv (au ((av _ _ ?_)))))))))
 refine aA (U (fun _ ax=>(p (cM rfl rfl) (aj (((ax _ _ (cd rfl (fun aM=> ?_) (fun aM=> ?_)))))))))
 have h1:r.getD 0 []=eQ:=aM
 have G:r.length=2:=by rw [hw,h1]; rfl
 have hr1:=hr1 (by omega)
 refine U (fun _ ay=>(ag (aI H.rb) (ag (.slice q r.length A) (e (cl Ea (Hg w1 H F k ln seen r ai q A Y hS0 (hT.wk a) G hrl) rfl fun b8 ci bs=>aj (((ay _ _ ?_))))))))
 exact rt (br (tr (f1 rfl rfl (dS.eq bs (Hl h1)))))
 have bP:¬r.getD 0 []=eQ:=aM
 refine U (fun _ ay=>(p (cM rfl rfl) (aj (((ay _ _ (cd rfl (fun aN=> ?_) (fun aN=> ?_))))))))
 have h2:r.getD 0 []=e5:=aN
 have G:r.length=2:=by rw [hw,h2]; rfl
 have hr1:=hr1 (by omega)
 refine U (fun _ ap=>(ag (.slice q r.length A) (p (aJ bC rfl rfl (by omega) (aw.ok (C _ a) (bo (by omega)))) (p (ld bz rfl (bp.get (i:=1) (C _ a) (by omega))) (e (cl nY (oJ (r.getD 1 []) Y (by omega)) rfl fun b9 w56 bt=> ?_))))))
 obtain ⟨rfl,hE56⟩:=bt
 have hW56:=a.trans hE56
 refine aj (((ap _ _ (sq (fun _ al=>U (fun _ Z=>(p mv (p (no rfl) ?_))))))))
 refine au ((Z _ _ (cb rfl (fun aO=> ?_) (fun aO=> ?_))))
 refine U (fun _ E=>(aj (((E _ _ (rt (tr (br ?_))))))))
 exact tr (f1 rfl rfl (dS.er ((zp h2).trans (A4 (by simpa using aO))) (by decide) (j.wk hE56).bM hW56))
 refine az (tn (al _ _ (sq (fun _ E=> ?_))))
 have hS14:(fun w'=>Wk w56 w') w56.drew:=(Md.refl _ _).drew
 refine dH (fun w'=>Wk w56 w') 9 rfl wide hS14 (a4 0 rfl (aI H.rb) hS14 (a5 1 rfl (fun _=>nc rfl) (fun _=>hS14) (a5 2 rfl (fun _=>fa ik rfl) (fun _=>hS14) (cQ 3 rfl (fun w' ah=>ld ib rfl (Wk.aE ah ((aR (j.wk hE56).cells).trans rfl))) hS14 (a4 4 rfl (.slice q r.length A) hS14 (a5 5 rfl (fun _=>aJ bC rfl rfl (by omega) (aw.ok (C _ hW56) (bo (by omega)))) (fun _=>hS14) (cQ 6 rfl (fun w' ah=>ld bz rfl (Wk.aE ah (bp.get (i:=1) (C _ hW56) (by omega)))) hS14 ?_)))))))
 refine a5 7 rfl (fun _=>nc rfl) (fun _=>hS14) (a5 8 rfl (fun _=>fa Gz rfl) (fun _=>hS14) (cE 9 rfl (by kernel_rfl) (by kernel_rfl) (cj jc rfl rfl (v:=str (r.getD 1 [])) rfl ((hF.wk hE56).wk hS14).cells (by show _ < 13; omega) fun w9 hM9 an=> ?_)))
 have hF9:=((hF.wk hE56).wk hS14).put (F':= {F with mx:=r.getD 1 []}) hM9 an rfl rfl rfl rfl hF.ee
 have hR9:=((j.wk hE56).wk hS14).fb ((hF.wk hE56).wk hS14) hM9
 have M:Wk w1 w9:=(hW56.trans hS14).trans' hM9 (fun k hk h=>by omega)
 refine dG (by kernel_rfl) ?_
 refine tn (E _ _ (U (fun _ I=>(aj (((I _ _ (rt (br ?_)))))))))
 exact tr (f1 rfl rfl (⟨.inl ⟨_,k,ln,(zp h2).trans (A5 (by simpa using aO)),rfl,⟨V,vh,hF9,hR9,⟨hB.len,hbs,hB.row,hB.kd⟩,M,hkl⟩⟩,M⟩))
 have bR:¬r.getD 0 []=e5:=aN
 refine U (fun _ ap=>(p (cM rfl rfl) (aj (((ap _ _ (cd rfl (fun aP=> ?_) (fun aP=> ?_))))))))
 have h3:r.getD 0 []=fp:=aP
 have G:r.length=2:=by rw [hw,h3]; rfl
 have hr1:=hr1 (by omega)
 refine U (fun _ al=>(ag (.slice q r.length A) (p (aJ bC rfl rfl (by omega) (aw.ok (C _ a) (bo (by omega)))) (p (ld bz rfl (bp.get (i:=1) (C _ a) (by omega))) (e (cl Eb (Kh (r.getD 1 []) Y (by omega)) rfl fun ca ck bu=> ?_))))))
 obtain ⟨rfl,ac⟩:=bu
 have hW74:=a.trans ac
 refine p mv (p (xt rfl rfl) (p (xt rfl rfl) (p ak (aj (((al _ _ (sq (fun _ Z=> ?_)))))))))
 refine rg rfl (ag (aI H.rb) (p (nc rfl) (p (fa ik rfl) (p (ld ib rfl ((aR (j.wk ac).cells).trans rfl)) (p mv (p (nc rfl) (p (fa GA rfl) ?_)))))))
 refine e (cj jc rfl rfl (v:=str (letE (r.getD 1 [])).1) rfl (hF.wk ac).cells (by show _ < 13; omega) fun w9 hM9 an=> ?_)
 have hF9:=(hF.wk ac).put (F':= {F with tr:=(letE (r.getD 1 [])).1}) hM9 an rfl rfl rfl rfl hF.ee
 have hR9:=(j.wk ac).fb (hF.wk ac) hM9
 have M:Wk w1 w9:=hW74.trans' hM9 (fun k hk h=>by omega)
 refine au ((Z _ _ (U (fun _ E=>(p mv (aj (((E _ _ ?_)))))))))
 refine rt (br (tr (f1 rfl rfl ?_)))
 by_cases h:(letE (r.getD 1 [])).2=0
 exact ⟨.inl ⟨_,k,ln,(zr h3).trans (BD h),by rw [h]; rfl,⟨V,vh,hF9,hR9,⟨hB.len,hbs,hB.row,hB.kd⟩,M,hkl⟩⟩,M⟩
 exact dS.er ((zr h3).trans (BC h)) h hR9.bM M
 have bS:¬r.getD 0 []=fp:=aP
 refine U (fun _ al=>(p (cM rfl rfl) (aj (((al _ _ (cd rfl (fun aQ=> ?_) (fun aQ=> ?_))))))))
 have h4:r.getD 0 []=gv:=aQ
 have G:r.length=2:=by rw [hw,h4]; rfl
 have hr1:=hr1 (by omega)
 refine U (fun _ Z=>(ag (.slice q r.length A) (p (aJ bC rfl rfl (by omega) (aw.ok (C _ a) (bo (by omega)))) (p (ld bz rfl (bp.get (i:=1) (C _ a) (by omega))) (e (cl mu (mK (r.getD 1 []) 64 Y (by omega) (by omega)) rfl fun cc cm bv=> ?_))))))
 obtain ⟨rfl,O⟩:=bv
 have hW91:=a.trans O
 refine p mv (p (xt rfl rfl) (p (xt rfl rfl) (p ak (aj (((Z _ _ (sq (fun _ E=> ?_)))))))))
 refine U (fun _ I=>(p mv (p (bH rfl rfl) (p mv (gs (t:=96) rfl (fun aW=> ?_) (fun aW=> ?_))))))
 refine sk rfl rfl rfl rfl (sk rfl rfl rfl rfl (p (bc rfl) (au ((I _ _ (ct rfl (U (fun _ J=> ?_))))))))
 refine aj (((J _ _ (rt (tr (br (tr (f1 rfl rfl ?_))))))))
 exact dS.er ((tx h4).trans (Aa (k8 aW).1)) (by decide) (j.wk O).bM hW91
 refine pg rfl rfl rfl mv (pg rfl rfl rfl (bd rfl rfl) (p (a6 rfl) (au ((I _ _ (cd rfl (fun bE=> ?_) (fun bE=> ?_)))))))
 refine U (fun _ J=>(aj (((J _ _ (rt (tr (br ?_))))))))
 exact tr (f1 rfl rfl (dS.er ((tx h4).trans (Ab (j0 (by omega)) (by omega))) (by decide) (j.wk O).bM hW91))
 refine az (tn (E _ _ (U (fun _ J=>(ag (aI H.rb) (p (nc rfl) (p (fa ik rfl) (p (ld ib rfl ((aR (j.wk O).cells).trans rfl)) ?_))))))))
 refine p mv (p (nc rfl) (p (fa GB rfl) (e (cj fW rfl rfl (v:=ae ((cH (r.getD 1 []) 64).1)) rfl (hF.wk O).cells (by show _ < 13; omega) fun w9 hM9 an=> ?_))))
 have hF9:=(hF.wk O).put (F':= {F with least:=(cH (r.getD 1 []) 64).1}) hM9 an rfl rfl rfl rfl hF.ee
 have hR9:=(j.wk O).fb (hF.wk O) hM9
 have M:Wk w1 w9:=hW91.trans' hM9 (fun k hk h=>by omega)
 refine au ((J _ _ (U (fun _ aa=>(aj (((aa _ _ (rt ?_)))))))))
 exact br (tr (f1 rfl rfl (⟨.inl ⟨_,k,ln,(tx h4).trans (Ac (j0 (by omega)) (by omega)),rfl,⟨V,vh,hF9,hR9,⟨hB.len,hbs,hB.row,hB.kd⟩,M,hkl⟩⟩,M⟩)))
 have bT:¬r.getD 0 []=gv:=aQ
 refine U (fun _ Z=>(p (cM rfl rfl) (aj (((Z _ _ (cd rfl (fun aF=> ?_) (fun aF=> ?_))))))))
 have h5:r.getD 0 []=dE:=aF
 have G:r.length=2:=by rw [hw,h5]; rfl
 have hr1:=hr1 (by omega)
 refine U (fun _ E=>(ag (.slice q r.length A) (p (aJ bC rfl rfl (by omega) (aw.ok (C _ a) (bo (by omega)))) (p (ld bz rfl (bp.get (i:=1) (C _ a) (by omega))) (e (cl mu (mK (r.getD 1 []) 256 Y (by omega) (by omega)) rfl fun bZ w113 bf=> ?_))))))
 obtain ⟨rfl,hE113⟩:=bf
 have hW113:=a.trans hE113
 have hnle:=lZ (r.getD 1 []) 256
 refine p mv (p (xt rfl rfl) (p (xt rfl rfl) (p ak (aj (((E _ _ (sq (fun _ I=> ?_)))))))))
 refine U (fun _ J=>(p mv (p (bH rfl rfl) (au ((J _ _ (cd rfl (fun bB=> ?_) (fun bB=> ?_))))))))
 refine U (fun _ aa=>(p mv (aj (((aa _ _ (rt (tr ?_))))))))
 refine br (tr (f1 rfl rfl ?_))
 have h13:=k8 (s:=r.getD 1 []) (most:=256) (by omega)
 show dS w1 H seen _ (.int .i64 (cH (r.getD 1 []) 256).2) w113
 rw [h13.2]
 exact dS.er ((zo h5).trans (AQ h13.1)) (by decide) (j.wk hE113).bM hW113
 refine az (tn (I _ _ (U (fun _ aa=>(ag (aI H.rb) (ag (.slice q r.length A) (p mv (e (cl sc (tp w1 H F k ln seen r ai q A (cH (r.getD 1 []) 256).1 w113 aB ⟨V,vh,hF.wk hE113,j.wk hE113,hB,hW113,hkl⟩ hT (.inl G) (by have :=hnle (by omega); omega) (fun h _=>absurd h5 h)) rfl fun b0 ce bg=> ?_)))))))))
 exact aj (((aa _ _ (rt (br (tr (f1 rfl rfl (dS.eq bg ((zo h5).trans (JZ G h5 (j0 (by omega))))))))))))
 have bU:¬r.getD 0 []=dE:=aF
 refine U (fun _ E=>(p (cM rfl rfl) (aj (((E _ _ (cd rfl (fun aG=> ?_) (fun aG=> ?_))))))))
 have ab:r.getD 0 []=db:=aG
 have G:r.length=2:=by rw [hw,ab]; rfl
 have hr1:=hr1 (by omega)
 refine U (fun _ I=>(ag (aI H.rb) (e (cl r5 (tw w1.heap.size H k ln seen vh dQ Y j (by omega)) rfl fun b1 bW bh=> ?_))))
 obtain ⟨rfl,bJ⟩:=bh
 subst bJ
 refine aj (((I _ _ (U (fun _ J=>(ag (aI H.rb) (e (cl r5 (tw w1.heap.size H k ln seen vh bQ bW j (by omega)) rfl fun b2 bX bi=> ?_))))))))
 obtain ⟨rfl,bK⟩:=bi
 subst bK
 refine aj (((J _ _ (sq (fun _ aa=>U (fun _ aU=>(p mv (p mv ?_))))))))
 refine gb (t:=130) rfl (fun aS=> ?_) (fun aS=> ?_)
 refine sk rfl rfl rfl rfl (p (bc rfl) (au ((aU _ _ (ct rfl (U (fun _ am=>(p ak ?_))))))))
 exact au ((am _ _ (rt (tr (br (tr (f1 rfl rfl (dS.er ((qt ab).trans (rJ (.inl (of_decide_eq_true aS)))) (by decide) j.bM a))))))))
 refine pg rfl rfl rfl mv (p (a6 rfl) (au ((aU _ _ (cb rfl (fun aK=> ?_) (fun aK=> ?_))))))
 refine U (fun _ am=>(aj (((am _ _ (rt (tr (br ?_))))))))
 exact tr (f1 rfl rfl (dS.er ((qt ab).trans (rJ (.inr (of_decide_eq_true aK)))) (by decide) j.bM a))
 have aX:¬(dQ∈seen∨bQ∈seen):=fun h=>h.elim (of_decide_eq_false aS) (of_decide_eq_false aK)
 refine az (tn (aa _ _ (U (fun _ am=>(ag (.slice q r.length A) (p (aJ bC rfl rfl (by omega) (aw.ok (C _ a) (bo (by omega)))) (p (ld bz rfl (bp.get (i:=1) (C _ a) (by omega))) (e (cl mu (mK (r.getD 1 []) 1024 bX (by omega) (by omega)) rfl fun b3 aY bj=> ?_)))))))))
 obtain ⟨rfl,ao⟩:=bj
 have hW137:=a.trans ao
 have hnle:=lZ (r.getD 1 []) 1024
 refine p mv (p (xt rfl rfl) (p (xt rfl rfl) (p ak (aj (((am _ _ (sq (fun _ a0=> ?_)))))))))
 refine U (fun _ a2=>(p mv (p (bH rfl rfl) (au ((a2 _ _ (cd rfl (fun bD=> ?_) (fun bD=> ?_))))))))
 refine U (fun _ aq=>(p mv (aj (((aq _ _ (rt (tr ?_))))))))
 refine br (tr (f1 rfl rfl ?_))
 have h13:=k8 (s:=r.getD 1 []) (most:=1024) (by omega)
 show dS w1 H seen _ (.int .i64 (cH (r.getD 1 []) 1024).2) aY
 rw [h13.2]
 exact dS.er ((qt ab).trans (vN aX h13.1)) (by decide) (j.wk ao).bM hW137
 refine az (tn (a0 _ _ (U (fun _ aq=>(ag (aI H.rb) (ag (.slice q r.length A) (p mv (e (cl sc (tp w1 H F k ln seen r ai q A (cH (r.getD 1 []) 1024).1 aY aB ⟨V,vh,hF.wk ao,j.wk ao,hB,hW137,hkl⟩ hT (.inl G) (by have :=hnle (by omega); omega) (fun _ h=>absurd ab h)) rfl fun b4 cf bk=> ?_)))))))))
 exact aj (((aq _ _ (rt (br (tr (f1 rfl rfl (dS.eq bk ((qt ab).trans (CA G ab aX (j0 (by omega))))))))))))
 have bV:¬r.getD 0 []=db:=aG
 have hpf:=JD bI bO bP bR bS bT bU bV
 have bG:r.length=4:=by rw [hw,BW hpf]
 refine az (bn (tn (ar _ _ (U (fun _ I=>(ag (aI H.rb) (ag (.slice q r.length A) (e (cl Ec (GW w1 H F k ln seen r ai q A Y aB hS0 hT hrl bx bG hpf) rfl fun b5 cg bl=> ?_)))))))))
 exact aj (((I _ _ (rt (f1 rfl rfl (dS.eq bl (Hk hpf)))))))
end Go.Hb.vu
end
