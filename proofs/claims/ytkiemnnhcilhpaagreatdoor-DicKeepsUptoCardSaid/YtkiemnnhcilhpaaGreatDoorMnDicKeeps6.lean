/-
  Walks and plain laws that the law rests on, laid together. No conditions but those that each theorem names.
-/
import Derived.Test.YtkiemnnhcilhpaaGreatDoorMnDicKeeps5
set_option linter.unusedVariables false
section
set_option maxRecDepth 20000
set_option maxHeartbeats 1000000
namespace Go.Hb.pq
open Go.Hb.di
open Go.Proofs
open Go.Hb.gF Go.Hb.g4 Go.Hb.lJ
theorem LL {L:List Nat} (h:¬L.length≤64) (h2:L.length≤65) {M:List Nat} (h1:L=M.take 65) (x:Nat):L=(M++ [x]).take 65:=by
 have h3:=congrArg List.length h1
 rw [List.length_take] at h3
 rw [List.take_append_of_le_length (by omega),← h1]
theorem LM {L:List Nat} (h:L.length≤64) {M:List Nat} (h1:L=M.take 65) (x:Nat):L++ [x]=(M++ [x]).take 65:=by
 have h3:=congrArg List.length h1
 rw [List.length_take] at h3
 rw [List.take_of_length_le (by rw [List.length_append,List.length_singleton]; omega)]
 rw [List.take_of_length_le (by omega)] at h1; rw [h1]
theorem L7 {l out:List Nat} {nx:Int} (h:lL l out nx) (j:nx < 65536):out.length≤65536:=by
 have h1:∀ x∈out,x < 65536:=fun x a=>by have :=((h.2 x).1 a).2; omega
 have h2:out.Nodup:=h.1.imp (fun i=>by omega)
 have h3:=List.Nodup.length_le_of_subset h2 (fun x a=>List.mem_range.2 (h1 x a))
 simpa using h3
theorem uU (b:UInt8) (w:World):
 aU Tryz.prog 140 (List.toArray [.int .u8 b.toNat]) w (fun v w'=>v= .bool (fG b)∧Wk w w'):=by
 refine enter Tryz.func140 rfl Tryz.ntmps140 rfl ?_
 refine U (fun _ i=>(aj (((i _ _ (U (fun _ a=>(ag (.int .u8 b.toNat) ?_))))))))
 refine p (ge rfl rfl) (p mv (gs (t:=5) rfl (fun hg5=> ?_) (fun hg5=> ?_)))
 refine pg rfl rfl rfl (aC (.int .u8 b.toNat) rfl) (pg rfl rfl rfl (le rfl rfl) (p (bg rfl) (p mv (gs (t:=9) rfl (fun hg9=> ?_) (fun hg9=> ?_)))))
 refine pg rfl rfl rfl (aC (.int .u8 b.toNat) rfl) (pg rfl rfl rfl (bB rfl rfl) (p (bg rfl) (p mv (gs (t:=13) rfl (fun hg13=> ?_) (fun hg13=> ?_)))))
 refine pg rfl rfl rfl (aC (.int .u8 b.toNat) rfl) (pg rfl rfl rfl (bB rfl rfl) (p (bg rfl) (p mv (gs (t:=17) rfl (fun j=> ?_) (fun j=> ?_)))))
 refine pg rfl rfl rfl (aC (.int .u8 b.toNat) rfl) (pg rfl rfl rfl (bB rfl rfl) (p (bg rfl) (aj (((a _ _ (rt (f1 rfl rfl ?_))))))))
 exact ⟨by show Value.bool (decide _)=_; rw [kI]; exact bv (by constructor <;> intro h <;> first | exact ⟨by omega,by omega,by omega,by omega,h⟩ | exact h.2.2.2.2),Md.refl _ _⟩
 refine sk rfl rfl rfl rfl (sk rfl rfl rfl rfl (p (a5 rfl) (aj (((a _ _ (rt (f1 rfl rfl ?_))))))))
 exact ⟨by show Value.bool false =_; rw [kI,decide_eq_false (by omega)],Md.refl _ _⟩
 refine sk rfl rfl rfl rfl (sk rfl rfl rfl rfl (p (a5 rfl) (p mv (sk rfl rfl rfl rfl (sk rfl rfl rfl rfl (p (a5 rfl) (p ak ?_)))))))
 exact au ((a _ _ (rt (f1 rfl rfl (⟨by show Value.bool false =_; rw [kI,decide_eq_false (by omega)],Md.refl _ _⟩)))))
 refine sk rfl rfl rfl rfl (sk rfl rfl rfl rfl (p (a5 rfl) (p mv (sk rfl rfl rfl rfl (sk rfl rfl rfl rfl (p (a5 rfl) (p mv ?_)))))))
 refine sk rfl rfl rfl rfl (sk rfl rfl rfl rfl (p (a5 rfl) (aj (((a _ _ (rt (f1 rfl rfl ?_))))))))
 exact ⟨by show Value.bool false =_; rw [kI,decide_eq_false (by omega)],Md.refl _ _⟩
 refine sk rfl rfl rfl rfl (sk rfl rfl rfl rfl (p (a5 rfl) (p mv (sk rfl rfl rfl rfl (sk rfl rfl rfl rfl (p (a5 rfl) (p mv ?_)))))))
 refine sk rfl rfl rfl rfl (sk rfl rfl rfl rfl (p (a5 rfl) (p mv (sk rfl rfl rfl rfl (sk rfl rfl rfl rfl (p (a5 rfl) (p ak ?_)))))))
 exact au ((a _ _ (rt (f1 rfl rfl (⟨by show Value.bool false =_; rw [kI,decide_eq_false (by omega)],Md.refl _ _⟩)))))
theorem B6 (kind:Nat) (s:List UInt8) (w:World) (hk:kind=1∨kind=2∨kind=3) (hs:s.length≤1048576):
 aU Tryz.prog 124 (List.toArray [ae kind,str s]) w (fun v w'=>v=bq (dm kind s)∧Wk w w'):=by
 refine enter Tryz.func124 rfl Tryz.ntmps124 rfl ?_
 refine U (fun _ Z=>(aj (((Z _ _ (sq (fun _ ab=>U (fun _ ac=> ?_))))))))
 refine ag (ae kind) (au ((ac _ _ (aA (U (fun _ ah=>(p (bf rfl rfl) (p ak ?_))))))))
 refine au ((ah _ _ (cd rfl (fun hc10=> ?_) (fun hc10=> ?_))))
 refine sq (fun _ J=>U (fun _ j=>(ag (str s) (p (bK u9 rfl rfl) (p (bB rfl rfl) (p mv (gs (t:=15) rfl (fun aq=> ?_) (fun aq=> ?_))))))))
 refine sk rfl rfl rfl rfl (sk rfl rfl rfl rfl (sk rfl rfl rfl rfl (sk rfl rfl rfl rfl (p (bg rfl) (au ((j _ _ (ct rfl ?_))))))))
 refine U (fun _ i=>(aj (((i _ _ (rt (tr (br ?_))))))))
 exact tr (f1 rfl rfl (⟨by rw [np (by omega) (fun h=>by omega) (fun h=>by omega)]; rfl,Md.refl _ _⟩))
 refine pg rfl rfl rfl (aC (str s) rfl) (pg rfl rfl rfl (fD 0 u9 rfl rfl (by omega)) (eg rfl rfl rfl (cl sn (uU (s.getD 0 0) _) rfl fun ar w18 ai=> ?_)))
 obtain ⟨rfl,V⟩:=ai
 refine pg rfl rfl rfl (no rfl) (p (a5 rfl) (au ((j _ _ (cb rfl (fun E=> ?_) (fun E=> ?_))))))
 refine U (fun _ i=>(aj (((i _ _ (rt (tr (br ?_))))))))
 exact tr (f1 rfl rfl (⟨by rw [np (by omega) (fun h=>by rw [h.2.2] at E; cases E) (fun h=>by omega)]; rfl,V⟩))
 refine az (tn (J _ _ (U (fun _ i=>(ag (str s) (p (fD 0 u9 rfl rfl (by omega)) (p (ir u3 lC rfl (bm (by have :=UInt8.toNat_lt (s.getD 0 0); omega))) (p ak ?_))))))))
 exact au ((i _ _ (rt (br (tr (f1 rfl rfl (⟨by rw [yW ⟨by omega,by omega,by simpa using E⟩]; rfl,V⟩)))))))
 refine U (fun _ J=>(p (bf rfl rfl) (aj (((J _ _ (cd rfl (fun ao=> ?_) (fun ao=> ?_))))))))
 refine sq (fun _ j=>U (fun _ i=>(ag (str s) (p (bK u9 rfl rfl) (p (bB rfl rfl) (au ((i _ _ ?_))))))))
 refine cd rfl (fun ap=> ?_) (fun ap=> ?_)
 refine U (fun _ A=>(aj (((A _ _ (rt (tr (br ?_))))))))
 exact tr (f1 rfl rfl (⟨by rw [np (by omega) (fun h=>by omega) (fun h=>by omega)]; rfl,Md.refl _ _⟩))
 refine az (tn (j _ _ (U (fun _ A=>(ag (str s) (p (fD 0 u9 rfl rfl (by omega)) (e (cl sn (uU (s.getD 0 0) _) rfl fun av w31 al=> ?_))))))))
 obtain ⟨rfl,hE31⟩:=al
 refine aj (((A _ _ (U (fun _ C=>(ag (str s) (p (fD 1 u9 rfl rfl (by omega)) (e (cl sn (uU (s.getD 1 0) _) rfl fun aw M am=> ?_)))))))))
 obtain ⟨rfl,hE34⟩:=am
 refine aj (((C _ _ (sq (fun _ aa=>U (fun _ O=>(p mv (p (no rfl) ?_))))))))
 refine p mv (gb (t:=37) rfl (fun I=> ?_) (fun I=> ?_))
 refine sk rfl rfl rfl rfl (sk rfl rfl rfl rfl (p (bg rfl) (au ((O _ _ (ct rfl (U (fun _ q=> ?_))))))))
 refine aj (((q _ _ (rt (tr (br (tr (f1 rfl rfl ?_))))))))
 exact ⟨by rw [np (by omega) (fun h=>by omega) (fun h=>by rw [h.2.2.1] at I; cases I)]; rfl,Md.trans hE31 hE34⟩
 refine pg rfl rfl rfl mv (pg rfl rfl rfl (no rfl) (p (a5 rfl) (au ((O _ _ (cb rfl (fun G=> ?_) (fun G=> ?_)))))))
 refine U (fun _ q=>(aj (((q _ _ (rt (tr (br ?_))))))))
 exact tr (f1 rfl rfl (⟨by rw [np (by omega) (fun h=>by omega) (fun h=>by rw [h.2.2.2] at G; cases G)]; rfl,Md.trans hE31 hE34⟩))
 refine az (tn (aa _ _ (sq (fun _ q=> ?_))))
 have g0:=UInt8.toNat_lt (s.getD 0 0)
 have g1:=UInt8.toNat_lt (s.getD 1 0)
 have a:(fun w'=>Wk M w') M.drew:=(Md.refl _ _).drew
 refine bD (fun w'=>Wk M w') rfl wide a (bd 0 rfl (str s) a (aB 1 rfl (fun _ _=>fD 0 u9 rfl rfl (by omega)) a (aB 2 rfl (fun _ _=>ir u3 lC rfl (bm (by have :=UInt8.toNat_lt (s.getD 0 0); omega))) a (aB 3 rfl (fun _ _=>kF ((256 *(s.getD 0 0).toNat:Nat):Int) rfl rfl (aR (by omega) (by omega))) a (bd 4 rfl (str s) a (aB 5 rfl (fun _ _=>fD 1 u9 rfl rfl (by omega)) a (aB 6 rfl (fun _ _=>ir u3 lC rfl (bm (by have :=UInt8.toNat_lt (s.getD 1 0); omega))) a ?_)))))))
 refine aB 7 rfl (fun _ _=>bc ((256 *(s.getD 0 0).toNat+(s.getD 1 0).toNat:Nat):Int) rfl rfl (aR (by omega) (by omega))) a (aB 8 rfl (fun _ _=>ak) a (hn (by kernel_rfl) (tn (q _ _ (rt (br (tr (f1 rfl rfl ?_))))))))
 exact ⟨by rw [yX ⟨by omega,by omega,by simpa using I,by simpa using G⟩]; rfl,(Md.trans hE31 hE34).drew⟩
 refine az (bn (tn (ab _ _ (U (fun _ j=>(ag (str s) (e (cl mB (mR s 65535 _ hs (by decide)) rfl fun ax w51 an=> ?_))))))))
 obtain ⟨rfl,hE51⟩:=an
 have hn5:=Ar s
 refine p mv (p (xt rfl rfl) (p (xt rfl rfl) (p ak (aj (((j _ _ (sq (fun _ i=> ?_)))))))))
 refine U (fun _ A=>(p mv (p (bB rfl rfl) (au ((A _ _ (cd rfl (fun Y=> ?_) (fun Y=> ?_))))))))
 refine U (fun _ C=>(aj (((C _ _ (rt (tr (f1 rfl rfl ?_))))))))
 exact ⟨by rw [tj (by omega)]; unfold bq; exact iv (by have h1:=Y; unfold cJ at*; split <;> first | rfl | (rename_i h2; rw [if_neg h2] at h1; exact absurd rfl h1)),hE51⟩
 refine az (tn (i _ _ (U (fun _ C=>(p mv (aj (((C _ _ ?_)))))))))
 exact rt (f1 rfl rfl (⟨by rw [tj (by omega)]; rfl,hE51⟩))
theorem KE (kind:Nat) (s:List UInt8) (w:World) (hk:kind=1∨kind=2∨kind=3) (hs:s.length≤1048576):
 aU Tryz.prog 106 (List.toArray [ae kind,str s]) w (fun v w'=>v= .tuple #[bq (eE kind s).1,ae ((eE kind s).2)]∧Wk w w'):=by
 refine enter Tryz.func106 rfl Tryz.ntmps106 rfl ?_
 refine U (fun _ j=>(p ak (aj (((j _ _ (sq (fun _ q=>sq (fun _ A=> ?_)))))))))
 refine rg rfl (ag (ae kind) (p (lt rfl rfl) (p mv (gs (t:=9) rfl (fun h=>absurd h (by omega)) (fun hg9=> ?_)))))
 refine pg rfl rfl rfl (aC (ae kind) rfl) (pg rfl rfl rfl (gt rfl rfl) (p (a5 rfl) (au ((A _ _ (cd rfl (fun h=>absurd h (by omega)) (fun J=> ?_)))))))
 refine az (tn (q _ _ (U (fun _ C=>(ag (ae kind) (ag (str s) (e (cl xj (B6 kind s _ hk hs) rfl fun M w15 hR15=> ?_))))))))
 obtain ⟨rfl,i⟩:=hR15
 refine aj (((C _ _ (sq (fun _ E=>U (fun _ G=>(p mv (p (bf rfl rfl) ?_))))))))
 refine au ((G _ _ (cd rfl (fun I=> ?_) (fun I=> ?_))))
 refine U (fun _ a=>(p ak (aj (((a _ _ (rt (tr ?_))))))))
 exact f2 rfl rfl rfl (⟨by unfold eE; rw [if_pos (show dm kind s=0 by omega)]; rfl,i⟩)
 refine az (tn (E _ _ (U (fun _ a=>(p mv (p ak (p ak (nl ?_))))))))
 exact tn (a _ _ (rt (f2 rfl rfl rfl (⟨by unfold eE; rw [if_neg (show ¬dm kind s=0 by omega)]; rfl,i⟩))))
theorem JX (kind:Nat) (s:List UInt8) (w:World) (hk:kind=1∨kind=2∨kind=3) (hs:s.length≤1048576):
 aU Tryz.prog 127 (List.toArray [ae kind,str s]) w (fun v w'=>World.ownsRow w' w.heap.size 9 1 (v) ((cg kind s)).length (((cg kind s)).map str)∧Wk w w'):=by
 refine enter Tryz.func127 rfl Tryz.ntmps127 rfl ?_
 refine U (fun _ ax=>(aj (((ax _ _ (U (fun _ ay=>(p ak ?_))))))))
 refine au ((ay _ _ (sq (fun _ aB=>U (fun _ aD=>(ag (ae kind) (p (bf rfl rfl) (nl ?_))))))))
 refine tn (aD _ _ (cd rfl (fun aK=> ?_) (fun aK=> ?_)))
 refine U (fun _ ab=>(aj (((ab _ _ (sq (fun _ ac=>U (fun _ ah=> ?_))))))))
 refine aj (((ah _ _ (aA (lp (fun O I wI=> ∃ (i q:Nat) (dn:List (List UInt8)) (a:Value),((i≤s.length∧q≤i∧dn.length≤i∧dn++dR 44 ((s.take i).drop q) (s.drop i)=dR 44 [] s)∨(i=s.length+1∧dn=dR 44 [] s))∧(World.ownsRow wI w.heap.size 9 1 (a) (dn).length ((dn).map str))∧(Wk w wI)∧(I 0=ae kind)∧(I 1=str s)∧(I 5=a)∧(I 6=ae q)∧(I 7=ae i)∧(s.length+1 - i=O)) _ ⟨0,0,[],.slice none 0 0,(.inl ⟨by omega,by omega,by simp,rfl⟩),(World.ownsRow_nil _ _ _ _),(Md.refl _ _),rfl,rfl,rfl,rfl,rfl,rfl⟩ ?_)))))
 rintro O I wI ⟨i,q,dn,a,hi,A,E,aS,aT,aV,aW,aX,rfl⟩
 refine fx 0 aS (fx 1 aT (fx 5 aV (fx 6 aW (fx 7 aX (sq (fun _ ai=>U (fun _ M=>(ag (ae i) (ag (str s) (p (bK u9 rfl rfl) (p (le rfl rfl) ?_)))))))))))
 refine au ((M _ _ (cd rfl (fun hc15=> ?_) (fun hc15=> ?_))))
 refine az (tn (ai _ _ (sq (fun _ C=>aA (sq (fun _ Z=> ?_))))))
 obtain ⟨bi,bk,bj,hd⟩:=hi.resolve_right (fun h=>by omega)
 refine rg rfl (ag (ae i) (ag (str s) (p (bK u9 rfl rfl) (p (bf rfl rfl) (p mv (gs (t:=22) rfl (fun aO=> ?_) (fun aO=> ?_)))))))
 have bD:dn++ [(s.take i).drop q]=dR 44 [] s:=by rw [← hd,List.drop_eq_nil_of_le (show s.length≤i by omega),dR]
 refine sk rfl rfl rfl rfl (sk rfl rfl rfl rfl (sk rfl rfl rfl rfl (sk rfl rfl rfl rfl (p (bg rfl) (au ((Z _ _ (ct rfl ?_))))))))
 refine U (fun _ aa=>(ag (a) (ag (str s) (ag (ae q) (ag (ae i) (p (iS u9 rfl rfl rfl (by omega)) (e (ec dV rfl rfl fun aE w33 aJ G al=> ?_))))))))
 have V:Wk w w33:=Md.trans E G.md
 refine e (ap dV (aG A G.md) rfl (by have :=V.size; omega) rfl (aw.cU al) (rfl) (rfl) (by omega) (by omega) fun ar a9 aq am hz34 aN=> ?_)
 have hE34:=Wk.own V (aG A G.md) am (Nat.le_refl _)
 have ho34x:=jl aq
 refine aj (((aa _ _ (rg rfl (ag (ae i) (p (bc ((i+1:Nat):Int) rfl rfl (aR (by omega) (by omega))) (p ak (nl ?_))))))))
 refine bn (tn (C _ _ (rg rfl (ag (ae i) (p (bc ((i+1:Nat):Int) rfl rfl (aR (by omega) (by omega))) (p ak (nl (tn ?_))))))))
 exact ⟨_,by omega,i+1,i+1,dn++ [(s.take i).drop q],ar,(.inr ⟨by omega,bD⟩),ho34x,hE34,rfl,rfl,rfl,rfl,rfl,rfl⟩
 refine pg rfl rfl rfl (aC (str s) rfl) (pg rfl rfl rfl (aC (ae i) rfl) (pg rfl rfl rfl (dA u9 rfl rfl (by omega)) (pg rfl rfl rfl (bf rfl rfl) (p (a5 rfl) (au ((Z _ _ (cd rfl (fun ao=> ?_) (fun ao=> ?_)))))))))
 have bD:dn++ [(s.take i).drop q]++dR 44 [] (s.drop (i+1))=dR 44 [] s:=by rw [← hd,drop_cons 0 (show i < s.length by omega),dR,if_pos (UInt8.toNat_inj.1 (by have bb:(44:UInt8).toNat=44:=rfl; omega)),List.append_assoc]; rfl
 refine U (fun _ aa=>(ag (a) (ag (str s) (ag (ae q) (ag (ae i) (p (iS u9 rfl rfl rfl (by omega)) (e (ec dV rfl rfl fun aE w33 aJ G al=> ?_))))))))
 have V:Wk w w33:=Md.trans E G.md
 refine e (ap dV (aG A G.md) rfl (by have :=V.size; omega) rfl (aw.cU al) (rfl) (rfl) (by omega) (by omega) fun ar a9 aq am hz34 aN=> ?_)
 have hE34:=Wk.own V (aG A G.md) am (Nat.le_refl _)
 have ho34x:=jl aq
 refine aj (((aa _ _ (rg rfl (ag (ae i) (p (bc ((i+1:Nat):Int) rfl rfl (aR (by omega) (by omega))) (p ak (nl ?_))))))))
 refine bn (tn (C _ _ (rg rfl (ag (ae i) (p (bc ((i+1:Nat):Int) rfl rfl (aR (by omega) (by omega))) (p ak (nl (tn ?_))))))))
 exact ⟨_,by omega,i+1,i+1,dn++ [(s.take i).drop q],ar,(.inl ⟨by omega,by omega,(by rw [List.length_append,List.length_singleton]; omega),(by rw [show (s.take (i+1)).drop (i+1)= [] from List.drop_eq_nil_of_le (by rw [List.length_take]; omega)]; exact bD)⟩),ho34x,hE34,rfl,rfl,rfl,rfl,rfl,rfl⟩
 have bD:dn++dR 44 ((s.take (i+1)).drop q) (s.drop (i+1))=dR 44 [] s:=by rw [← hd,drop_cons 0 (show i < s.length by omega),dR,if_neg (fun h=>by rw [h] at ao; exact ao rfl),← oX 0 (by omega) (by omega)]
 refine az (bn (tn (C _ _ (rg rfl (ag (ae i) (p (bc ((i+1:Nat):Int) rfl rfl (aR (by omega) (by omega))) (p ak (nl ?_))))))))
 exact tn (⟨_,by omega,i+1,q,dn,a,(.inl ⟨by omega,by omega,by omega,bD⟩),A,E,rfl,rfl,rfl,rfl,rfl,rfl⟩)
 refine ext (te _ (te _ (be (tn (ac _ _ (U (fun _ C=>(ag (a) ?_))))))))
 refine p (bF (a) rfl) (au ((C _ _ (rt (tr (f1 rfl rfl ?_))))))
 have hd2:dn=cg kind s:=by unfold cg; rw [if_pos (by omega)]; rcases hi with h | h <;> first | omega | exact h.2
 exact ⟨by rw [← hd2]; exact A,E⟩
 refine az (tn (aB _ _ (sq (fun _ ab=>U (fun _ ac=>(aj (((ac _ _ ?_)))))))))
 refine aA (lp (fun O Y wI=> ∃ (i:Nat) (dn:List (List UInt8)) (a:Value),(i≤s.length+kind∧dn.length≤i)∧(dn++chunks kind (s.drop i)=chunks kind s)∧(World.ownsRow wI w.heap.size 9 1 (a) (dn).length ((dn).map str))∧(Wk w wI)∧(Y 0=ae kind)∧(Y 1=str s)∧(Y 5=a)∧(Y 8=ae i)∧(s.length - i=O)) _ ⟨0,[],.slice none 0 0,((by simp)),rfl,(World.ownsRow_nil _ _ _ _),(Md.refl _ _),rfl,rfl,rfl,rfl,rfl⟩ ?_)
 rintro O Y wI ⟨i,dn,a,hi,hd,A,E,aY,aZ,a0,a1,rfl⟩
 refine fx 0 aY (fx 1 aZ (fx 5 a0 (fx 8 a1 (sq (fun _ ah=>U (fun _ ai=>(ag (ae i) (ag (str s) (p (bK u9 rfl rfl) (p (lt rfl rfl) ?_))))))))))
 refine au ((ai _ _ (cd rfl (fun aL=> ?_) (fun aL=> ?_))))
 have hne:s.drop i≠[]:=fun h=>by have :=congrArg List.length h; rw [List.length_drop,List.length_nil] at this; omega
 refine az (tn (ah _ _ (sq (fun _ M=>aA (U (fun _ C=>(ag (ae i) (ag (ae kind) ?_))))))))
 refine p (bc ((i+kind:Nat):Int) rfl rfl (aR (by omega) (by omega))) (aj (((C _ _ ?_))))
 refine c7 (fun J wC=> ∃ (j:Nat),(i≤j∧j≤s.length∧(s.take j).drop i=(s.drop i).take kind)∧(wC=wI)∧(J 0=ae kind)∧(J 1=str s)∧(J 5=a)∧(J 8=ae i)∧(J 9=ae j)) ?_ ?_
 refine U (fun _ Z=>(p mv (ag (str s) (p (bK u9 rfl rfl) (p (gt rfl rfl) (au ((Z _ _ ?_))))))))
 refine cd rfl (fun aM=> ?_) (fun aM=> ?_)
 exact rg rfl (ag (str s) (p (bK u9 rfl rfl) (aj (((⟨s.length,((by refine ⟨by omega,by omega,?_⟩; rw [List.take_length,List.take_of_length_le (by rw [List.length_drop]; omega)])),rfl,rfl,rfl,rfl,rfl,rfl⟩))))))
 exact az (tn (⟨i+kind,((by refine ⟨by omega,by omega,?_⟩; rw [List.drop_take,Nat.add_sub_cancel_left])),rfl,rfl,rfl,rfl,rfl,rfl⟩))
 rintro J wC ⟨j,aP,aH,a2,a3,a4,a6,a7⟩
 refine fx 0 a2 (fx 1 a3 (fx 5 a4 (fx 8 a6 (fx 9 a7 ?_))))
 subst aH
 refine rg rfl (ag (a) (ag (str s) (ag (ae i) (ag (ae j) (p (iS u9 rfl rfl rfl (by omega)) (e (ec dV rfl rfl fun ba w59 bd an aF=> ?_)))))))
 have av:Wk w w59:=Md.trans E an.md
 refine e (ap dV (aG A an.md) rfl (by have :=av.size; omega) rfl (aw.cU aF) (rfl) (rfl) (by omega) (by omega) fun a8 w60 aQ aI hz60 bh=> ?_)
 have hE60:=Wk.own av (aG A an.md) aI (Nat.le_refl _)
 have ho60x:=jl aQ
 refine p ak (nl (bn (tn (M _ _ (rg rfl (ag (ae i) (ag (ae kind) (p (bc ((i+kind:Nat):Int) rfl rfl (aR (by omega) (by omega))) ?_))))))))
 exact aj (((⟨_,by omega,i+kind,dn++ [(s.drop i).take kind],a8,((by rw [List.length_append,List.length_singleton]; omega)),((by rw [← hd,pW (k:=kind) (by omega) hne,List.append_assoc,List.drop_drop]; rfl)),((by rw [← aP.2.2]; exact ho60x)),hE60,rfl,rfl,rfl,rfl,rfl⟩)))
 refine ext (te _ (te _ (be (tn (ab _ _ (U (fun _ M=>(ag (a) ?_))))))))
 refine p (bF (a) rfl) (au ((M _ _ (rt (f1 rfl rfl ?_)))))
 have hd2:dn=cg kind s:=by unfold cg; rw [if_neg (by omega),← hd,List.drop_eq_nil_of_le (by omega),pX,List.append_nil]
 exact ⟨by rw [← hd2]; exact A,E⟩
theorem KD (l:List Nat) (a:Option Addr) (c:Nat) (w:World) (hC:aw w.heap a (l.map bq)) (hl:l.length≤1048576) (hlt:∀ x∈l,x < 65536):
 aU Tryz.prog 128 (List.toArray [.slice a l.length c]) w (fun v w'=>World.ownsRow w' w.heap.size 3 1 (v) ((gB l)).length (((gB l)).map bq)∧Wk w w'):=by
 refine enter Tryz.func128 rfl Tryz.ntmps128 rfl ?_
 refine U (fun _ ac=>(aj (((ac _ _ (U (fun _ ah=>(p ak ?_))))))))
 refine au ((ah _ _ (U (fun _ ai=>(aj (((ai _ _ (aA ?_)))))))))
 refine lp (fun G I wI=> ∃ (out:List Nat) (last:Int) (s:Value),(-1≤last∧last < 65536)∧(lL l out last)∧(World.ownsRow wI w.heap.size 3 1 (s) (out).length ((out).map bq))∧(Wk w wI)∧(out.length≤65536)∧(I 0= .slice a l.length c)∧(I 3=s)∧(I 4= .int .i64 last)∧((65536 - last).toNat=G)) _ ⟨[],-1,.slice none 0 0,((by decide)),(lL.nil l),(World.ownsRow_nil _ _ _ _),(Md.refl _ _),(Nat.zero_le _),rfl,rfl,rfl,rfl⟩ ?_
 rintro G I wI ⟨out,last,s,aW,ab,V,av,aY,aH,aI,aK,rfl⟩
 refine fx 0 aH (fx 3 aI (fx 4 aK (aA (U (fun _ al=>(aj (((al _ _ (sq (fun _ am=> ?_)))))))))))
 refine U (fun _ an=>(aj (((an _ _ (aA (lp (fun G C Y=> ∃ (i:Nat) (nx:Int),(i≤l.length∧ -1≤nx)∧(g5 l last i nx)∧(Wk w Y)∧(Wk wI Y)∧(C 0= .slice a l.length c)∧(C 3=s)∧(C 4= .int .i64 last)∧(C 5= .int .i64 nx)∧(C 6=ae i)∧(l.length - i=G)) _ ⟨0,-1,((by omega)),(g5.nil l last),av,(Md.refl _ _),rfl,rfl,rfl,rfl,rfl,rfl⟩ ?_)))))))
 rintro G C Y ⟨i,nx,hi,hnx,j,q,aL,aM,aN,aO,aP,rfl⟩
 refine fx 0 aL (fx 3 aM (fx 4 aN (fx 5 aO (fx 6 aP (sq (fun _ ao=>U (fun _ aq=>(ag (ae i) (ag (.slice a l.length c) (p (ba u64 rfl rfl) (p (lt rfl rfl) ?_)))))))))))
 refine au ((aq _ _ (cd rfl (fun hc10=> ?_) (fun hc10=> ?_))))
 refine az (tn (ao _ _ (sq (fun _ A=>aA (U (fun _ E=>(ag (.slice a l.length c) (ag (ae i) ?_))))))))
 refine p (aJ jY rfl rfl (by omega) (aw.ok (hC.wk j) (bp (by omega)))) (p (ld bT rfl (qP (f:=bq) (i:=i) 0 (hC.wk j) (by omega))) (ag (.int .i64 last) (p (gt rfl rfl) (p mv (gs (t:=19) rfl (fun aB=> ?_) (fun aB=> ?_))))))
 refine pg rfl rfl rfl (aC (.int .i64 nx) rfl) (pg rfl rfl rfl (lt rfl rfl) (pg rfl rfl rfl mv (gs (t:=22) rfl (fun aD=> ?_) (fun aD=> ?_))))
 refine sk rfl rfl rfl rfl (sk rfl rfl rfl rfl (sk rfl rfl rfl rfl (sk rfl rfl rfl rfl (sk rfl rfl rfl rfl (sk rfl rfl rfl rfl (pg rfl rfl rfl (bg rfl) (p (bg rfl) ?_)))))))
 refine au ((E _ _ (ct rfl (rg rfl (ag (.slice a l.length c) (ag (ae i) (p (aJ jY rfl rfl (by omega) (aw.ok (hC.wk j) (bp (by omega)))) (p (ld bT rfl (qP (f:=bq) (i:=i) 0 (hC.wk j) (by omega))) ?_))))))))
 refine p ak (nl (bn (tn (A _ _ (rg rfl (ag (ae i) (p (bc ((i+1:Nat):Int) rfl rfl (aR (by omega) (by omega))) (p ak ?_))))))))
 exact au ((⟨_,by omega,i+1,((l.getD i 0:Nat):Int),((by omega)),(hnx.take (by omega) (by omega) (.inl (by omega))),j,q,rfl,rfl,rfl,rfl,rfl,rfl⟩))
 refine pg rfl rfl rfl (aC (.slice a l.length c) rfl) (pg rfl rfl rfl (aC (ae i) rfl) (pg rfl rfl rfl (aJ jY rfl rfl (by omega) (aw.ok (hC.wk j) (bp (by omega)))) (pg rfl rfl rfl (ld bT rfl (qP (f:=bq) (i:=i) 0 (hC.wk j) (by omega))) (pg rfl rfl rfl (aC (.int .i64 nx) rfl) (pg rfl rfl rfl (lt rfl rfl) (pg rfl rfl rfl (a5 rfl) (p (bg rfl) ?_)))))))
 refine au ((E _ _ (cd rfl (fun ay=> ?_) (fun ay=> ?_))))
 refine rg rfl (ag (.slice a l.length c) (ag (ae i) (p (aJ jY rfl rfl (by omega) (aw.ok (hC.wk j) (bp (by omega)))) (p (ld bT rfl (qP (f:=bq) (i:=i) 0 (hC.wk j) (by omega))) (p ak (nl (bn ?_)))))))
 exact tn (A _ _ (rg rfl (ag (ae i) (p (bc ((i+1:Nat):Int) rfl rfl (aR (by omega) (by omega))) (aj (((⟨_,by omega,i+1,((l.getD i 0:Nat):Int),((by omega)),(hnx.take (by omega) (by omega) (.inr (by omega))),j,q,rfl,rfl,rfl,rfl,rfl,rfl⟩))))))))
 refine az (bn (tn (A _ _ (rg rfl (ag (ae i) (p (bc ((i+1:Nat):Int) rfl rfl (aR (by omega) (by omega))) (p ak (nl ?_))))))))
 exact tn (⟨_,by omega,i+1,nx,((by omega)),(hnx.skip (.inr ⟨by omega,by omega⟩)),j,q,rfl,rfl,rfl,rfl,rfl,rfl⟩)
 refine sk rfl rfl rfl rfl (sk rfl rfl rfl rfl (sk rfl rfl rfl rfl (eu rfl rfl rfl (eu rfl rfl rfl (eu rfl rfl rfl (eu rfl rfl rfl (eu rfl rfl rfl ?_)))))))
 refine eu rfl rfl rfl (sk rfl rfl rfl rfl (p (a5 rfl) (au ((E _ _ (cf rfl (az (bn ?_))))))))
 exact tn (A _ _ (rg rfl (ag (ae i) (p (bc ((i+1:Nat):Int) rfl rfl (aR (by omega) (by omega))) (aj (((⟨_,by omega,i+1,nx,((by omega)),(hnx.skip (.inl (by omega))),j,q,rfl,rfl,rfl,rfl,rfl,rfl⟩))))))))
 refine ext (te _ (te _ (be (tn (am _ _ (sq (fun _ A=>U (fun _ E=> ?_))))))))
 refine ag (.int .i64 nx) (p (lt rfl rfl) (au ((E _ _ (cd rfl (fun O=> ?_) (fun O=> ?_))))))
 refine U (fun _ J=>(ag (s) (p (bF (s) rfl) (au ((J _ _ (rt (tr ?_))))))))
 refine br (tr (br (f1 rfl rfl ?_)))
 have hz:=g5.done (by rw [show i=l.length by omega] at hnx; exact hnx) ab O
 exact ⟨by rw [← hz]; exact aG V q,j⟩
 obtain ⟨m,hm,aE,aX,aa⟩:=g5.more (by rw [show i=l.length by omega] at hnx; exact hnx) ab O
 have hm4:=hlt m hm
 refine az (tn (A _ _ (U (fun _ J=>(ag (s) (ag (.int .i64 nx) (e (ec jM rfl rfl fun aS w40 aT M ar=> ?_))))))))
 have Z:Wk w w40:=Md.trans j M.md
 refine e (ap jM (aG (aG V q) M.md) rfl (by have :=Z.size; omega) rfl (aw.cU ar) (rfl) (rfl) (by omega) (by omega) fun aQ w41 aF ax aZ aV=> ?_)
 have hE41:=Wk.own Z (aG (aG V q) M.md) ax (Nat.le_refl _)
 refine aj (((J _ _ (rg rfl (ag (.int .i64 nx) (p (bF (.int .i64 nx) rfl) (nl (bn ?_))))))))
 exact tn (⟨_,by omega,out++ [m],nx,aQ,((by omega)),aa,((by rw [List.length_append,List.map_append]; subst aE; exact aF)),hE41,((L7 aa (by omega))),rfl,rfl,rfl,rfl⟩)
theorem A1 (kind:Nat) (s:List UInt8) (w:World) (hk:kind=1∨kind=2∨kind=3) (hs:s.length≤1048576):
 aU Tryz.prog 109 (List.toArray [ae kind,str s]) w (fun v w'=>(∃ a,v= .tuple #[a,ae ((cX kind s).2)]∧World.ownsRow w' w.heap.size 3 1 (a) ((cX kind s).1).length (((cX kind s).1).map bq))∧Wk w w'):=by
 refine enter Tryz.func109 rfl Tryz.ntmps109 rfl ?_
 refine U (fun _ aq=>(p ak (aj (((aq _ _ (sq (fun _ ay=>sq (fun _ aB=> ?_)))))))))
 refine rg rfl (ag (ae kind) (p (lt rfl rfl) (p mv (gs (t:=12) rfl (fun h=>absurd h (by omega)) (fun hg12=> ?_)))))
 refine pg rfl rfl rfl (aC (ae kind) rfl) (pg rfl rfl rfl (gt rfl rfl) (p (a5 rfl) (au ((aB _ _ (cd rfl (fun h=>absurd h (by omega)) (fun hc15=> ?_)))))))
 refine az (tn (ay _ _ (sq (fun _ aD=>U (fun _ aE=>(ag (str s) (p (bK u9 rfl rfl) (p (bf rfl rfl) ?_))))))))
 refine au ((aE _ _ (cd rfl (fun hc18=> ?_) (fun hc18=> ?_))))
 refine U (fun _ ac=>(p ak (aj (((ac _ _ (rt (tr ?_))))))))
 refine f2 rfl rfl rfl ?_
 have hs0:s= []:=List.eq_nil_of_length_eq_zero (by omega)
 exact ⟨⟨.slice none 0 0,by unfold cX; rw [if_pos hs0]; rfl,by unfold cX; rw [if_pos hs0]; exact World.ownsRow_nil _ _ _ _⟩,Md.refl _ _⟩
 refine az (tn (aD _ _ (U (fun _ ac=>(aj (((ac _ _ (sq (fun _ aF=> ?_))))))))))
 refine rg rfl (ag (ae kind) (ag (str s) (e (cl Ds (JX kind s _ hk hs) rfl fun a9 w21 aN=> ?_))))
 obtain ⟨am,hE21⟩:=aN
 obtain ⟨V,Y,rfl⟩:=bW am
 have hS21:=(aM am).2
 have hpl:=AM (kind:=kind) (s:=s) (by omega)
 refine aj (((aF _ _ (sq (fun _ aH=>U (fun _ aI=>(p ak (nl ?_))))))))
 refine tn (aI _ _ (aA (lp (fun al I wI=> ∃ (i:Nat) (j:List Nat) (ah:Value),(i≤(cg kind s).length∧j.length≤65)∧(¬∃ x∈(cg kind s).take i,dm kind x=0)∧(j=(((cg kind s).take i).map (dm kind)).take 65)∧(World.ownsRow wI w21.heap.size 3 1 (ah) (j).length ((j).map bq))∧(Wk w21 wI)∧(I 0=ae kind)∧(I 1=str s)∧(I 6=ah)∧(I 7= .slice V (cg kind s).length Y)∧(I 8=ae i)∧((cg kind s).length - i=al)) _ ⟨0,[],.slice none 0 0,((by simp)),((by rintro ⟨x,Z,_⟩; simp at Z)),rfl,(World.ownsRow_nil _ _ _ _),(Md.refl _ _),rfl,rfl,rfl,rfl,rfl,rfl⟩ ?_)))
 rintro al I wI ⟨i,j,ah,hi,hne,M,G,q,aY,aZ,a0,a1,a2,rfl⟩
 refine fx 0 aY (fx 1 aZ (fx 6 a0 (fx 7 a1 (fx 8 a2 (sq (fun _ ar=>U (fun _ av=>(ag (ae i) (ag (.slice V (cg kind s).length Y) (p (ba dx rfl rfl) (p (lt rfl rfl) ?_)))))))))))
 refine au ((av _ _ (cd rfl (fun aQ=> ?_) (fun aQ=> ?_))))
 refine az (tn (ar _ _ (sq (fun _ O=>aA (sq (fun _ aa=> ?_))))))
 obtain ⟨A,C,rfl⟩:=bW G
 refine rg rfl (ag (ae kind) (ag (.slice V (cg kind s).length Y) (ag (ae i) (p (aJ bE rfl rfl (by omega) (aw.ok (hS21.wk q) (bp (by omega)))) (p (ld bz rfl (bu.get (i:=i) (hS21.wk q) (by omega))) (e (cl xj (B6 kind ((cg kind s).getD i []) _ hk (by have :=AN (kind:=kind) (by omega) (qF (d:= []) (show i < (cg kind s).length by omega)); omega)) rfl fun bb w33 aO=> ?_)))))))
 obtain ⟨rfl,E⟩:=aO
 refine aj (((aa _ _ (sq (fun _ J=>U (fun _ ax=>(p mv (p (bf rfl rfl) ?_))))))))
 refine au ((ax _ _ (cd rfl (fun aS=> ?_) (fun aS=> ?_))))
 refine U (fun _ ab=>(p ak (aj (((ab _ _ (rt (tr ?_))))))))
 refine br (tr (tr (br (tr (f2 rfl rfl rfl ?_)))))
 have hz:cX kind s=([],31):=by unfold cX; rw [if_neg (fun h=>by rw [h] at hc18; exact hc18 rfl),if_pos ⟨_,qF (d:= []) (show i < (cg kind s).length by omega),by omega⟩]
 exact ⟨⟨.slice none 0 0,by rw [hz]; rfl,by rw [hz]; exact World.ownsRow_nil _ _ _ _⟩,Md.trans hE21 (Md.trans q E)⟩
 refine az (tn (J _ _ (U (fun _ ab=>(ag (.slice A j.length C) (p (ba u64 rfl rfl) (p (le rfl rfl) (nl ?_))))))))
 refine tn (ab _ _ (cd rfl (fun aT=> ?_) (fun aT=> ?_)))
 refine rg rfl (ag (.slice A j.length C) (p mv (e (ec jM rfl rfl fun a6 w41 hb41 ai aK=> ?_))))
 have hE41:Wk w21 w41:=Md.trans (Md.trans q E) ai.md
 refine e (ap jM (aG (aG G E) ai.md) rfl (by have :=hE41.size; omega) rfl (aw.cU aK) (rfl) (rfl) (by omega) (by omega) fun ao w42 aW aL a8 a7=> ?_)
 have hE42:=Wk.own hE41 (aG (aG G E) ai.md) aL (Nat.le_refl _)
 have aX:World.ownsRow w42 w21.heap.size 3 1 (ao) ((j++ [dm kind ((cg kind s).getD i [])])).length (((j++ [dm kind ((cg kind s).getD i [])])).map bq):=by
  rw [List.length_append,List.map_append]; exact aW
 refine p ak (nl (bn (tn (O _ _ (rg rfl (ag (ae i) (p (bc ((i+1:Nat):Int) rfl rfl (aR (by omega) (by omega))) (p ak ?_))))))))
 exact au ((⟨_,by omega,i+1,j++ [dm kind ((cg kind s).getD i [])],ao,((by rw [List.length_append,List.length_singleton]; omega)),(tc (by omega) hne (by omega)),((by rw [eh _ i [] (by omega),List.map_append]; exact LM (by omega) M _)),aX,hE42,rfl,rfl,rfl,rfl,rfl,rfl⟩))
 refine az (bn (tn (O _ _ (rg rfl (ag (ae i) (p (bc ((i+1:Nat):Int) rfl rfl (aR (by omega) (by omega))) (p ak (nl ?_))))))))
 exact tn (⟨_,by omega,i+1,j,.slice A j.length C,(by omega),(tc (by omega) hne (by omega)),((by rw [eh _ i [] (by omega),List.map_append]; exact LL (by omega) (by omega) M _)),(aG G E),(Md.trans q E),rfl,rfl,rfl,rfl,rfl,rfl⟩)
 refine ext (te _ (te _ (be (tn (aH _ _ (sq (fun _ O=>sq (fun _ aa=> ?_))))))))
 obtain ⟨A,C,rfl⟩:=bW G
 have a3:(cg kind s).take i=(cg kind s):=List.take_of_length_le (by omega)
 rw [a3] at M hne
 refine rg rfl (ag (.slice V (cg kind s).length Y) (p (ba dx rfl rfl) (p (gt rfl rfl) (au ((aa _ _ (cd rfl (fun aV=> ?_) (fun aV=> ?_))))))))
 refine U (fun _ J=>(p ak (aj (((J _ _ (rt (tr ?_))))))))
 refine f2 rfl rfl rfl ?_
 have hz:cX kind s=([],32):=by unfold cX; rw [if_neg (fun h=>by rw [h] at hc18; exact hc18 rfl),if_neg hne,if_pos (by omega)]
 exact ⟨⟨.slice none 0 0,by rw [hz]; rfl,by rw [hz]; exact World.ownsRow_nil _ _ _ _⟩,Md.trans hE21 q⟩
 refine az (tn (O _ _ (U (fun _ J=>(ag (.slice A j.length C) (e (cl Dt (KD j A C _ (aM G).2 (by omega) (fun x Z=>by rw [M] at Z; obtain ⟨y,_,rfl⟩:=List.mem_map.1 (List.mem_of_mem_take Z); exact yV _ _)) rfl fun a4 bd aP=> ?_)))))))
 obtain ⟨an,hE47⟩:=aP
 refine p ak (aj (((J _ _ (rt (f2 rfl rfl rfl ?_))))))
 have hz:cX kind s=(gB ((cg kind s).map (dm kind)),0):=by unfold cX; rw [if_neg (fun h=>by rw [h] at hc18; exact hc18 rfl),if_neg hne,if_neg (by omega)]
 rw [M,List.take_of_length_le (by rw [List.length_map]; omega)] at an
 exact ⟨⟨a4,by rw [hz]; rfl,by rw [hz]; exact gi an (by have :=hE21.size; have :=q.size; omega)⟩,Md.trans hE21 (Md.trans q hE47)⟩
end Go.Hb.pq
end
section
set_option maxRecDepth 20000
set_option maxHeartbeats 1000000
namespace Go.Hb.po
open Go.Hb.di
open Go.Proofs
open Go.Hb.fS Go.Hb.kS Go.Hb.lH
theorem Ib {l:List UInt8} {i:Nat} {x:UInt8} (h:i < l.length) (h1:¬x∈l.take i) (h2:¬((l.getD i 0).toNat:Int)=(x.toNat:Int)):¬x∈l.take (i+1):=by
 rw [eh l i 0 h,List.mem_append,List.mem_singleton]
 rintro (h3 | h3)
 · exact h1 h3
 · exact h2 (by rw [h3])
theorem Ia {l:List UInt8} {i:Nat} {x:UInt8} (h:i < l.length) (h2:((l.getD i 0).toNat:Int)=(x.toNat:Int)):x∈l:=by
 have e:l.getD i 0=x:=UInt8.toNat_inj.1 (by omega)
 rw [← e]; exact c6 h
def kZ (s:List UInt8) (i:Nat):Int:=if dD 93 (s.drop i) < 0 then -1 else ((i+(s.drop i).idxOf 93:Nat):Int)
theorem E3 {s:List UInt8} {i k:Nat} (hk:i≤k∧k < s.length) (a:∀ j,i≤j→j < k→s.getD j 0≠93) (p:s.getD k 0=93):kZ s i=(k:Nat):=by
 have h:=zZ (x:=93) (l:=s.drop i) (i:=k - i) (by rw [List.length_drop]; omega) (fun j q=>by rw [List.getD_eq_getElem?_getD,List.getElem?_drop,← List.getD_eq_getElem?_getD]; exact a _ (by omega) (by omega)) (by rw [List.getD_eq_getElem?_getD,List.getElem?_drop,← List.getD_eq_getElem?_getD,show i+(k - i)=k by omega]; exact p)
 have h2:=mK (c:=93) (l:=s.drop i) (by omega)
 unfold kZ
 rw [if_neg (by omega)]
 omega
theorem E4 {s:List UInt8} {i:Nat} (p:∀ j,i≤j→j < s.length→s.getD j 0≠93):kZ s i= -1:=by
 have h:=z0 (x:=93) (l:=s.drop i) (fun j a=>by rw [List.length_drop] at a; rw [List.getD_eq_getElem?_getD,List.getElem?_drop,← List.getD_eq_getElem?_getD]; exact p _ (by omega) (by omega))
 unfold kZ
 rw [if_pos (by omega)]
theorem E2 {s:List UInt8} {i:Nat} (hi:i < s.length) (hb:s.getD i 0=91):(kZ s i < 0↔¬(s.drop (i+1)).idxOf 93 < (s.drop (i+1)).length)∧(¬kZ s i < 0→kZ s i=((i+1 +(s.drop (i+1)).idxOf 93:Nat):Int)):=by
 have e:s.drop i=91::s.drop (i+1):=by rw [drop_cons 0 hi,hb]
 have a:(91::s.drop (i+1)).idxOf 93=(s.drop (i+1)).idxOf 93 +1:=by rw [List.idxOf_cons]; rfl
 unfold kZ dD
 rw [e,a,List.length_cons]
 by_cases h:(s.drop (i+1)).idxOf 93 < (s.drop (i+1)).length
 · rw [if_pos (show (s.drop (i+1)).idxOf 93 +1 < (s.drop (i+1)).length+1 by omega)]
   rw [if_neg (by omega)]
   refine ⟨⟨fun h1=>by omega,fun h1=>absurd h h1⟩,fun _=>by omega⟩
 · rw [if_neg (show ¬(s.drop (i+1)).idxOf 93 +1 < (s.drop (i+1)).length+1 by omega)]
   rw [if_pos (show (-1:Int) < 0 from by decide)]
   refine ⟨⟨fun _=>h,fun _=>by decide⟩,fun h1=>absurd (by decide) h1⟩
theorem JO {w:World} {B e:Nat} {v:Value} {l:List (List UInt8)} {x:List UInt8} (h:w.ownsRow B e 1 v (l.length+1) (l.map str++ [str x])):w.ownsRow B e 1 v (l++ [x]).length ((l++ [x]).map str):=by
 rw [List.length_append,List.map_append]; exact h
theorem C9 {f:UInt8→Bool} :(bytesOf (fun x=> !f x)).length=0↔(bytesOf f).length=256:=by
 have :=Da f 256
 unfold bytesOf; omega
theorem I8 {h:Array Obj} {a:Option Addr} {l:List (List UInt8)} {i:Nat} (hc:aw h a (l.map str)) (hi:i < l.length):Hb.aE h (bk a) (fo a+i*1 +0)=some (str (l.getD i [])):=bu.get (i:=i) hc hi
theorem EH {s t r:List UInt8} (h:e4 s=some (t,r)):(t.length=1∨3≤t.length)∧t.length≤s.length:=by
 cases s with
 | nil=>cases h
 | cons b l=>
   simp only [e4] at h
   split at h
   · split at h
     · rename_i hc
       simp only [Option.some.injEq,Prod.mk.injEq] at h
       obtain ⟨rfl,_⟩:=h
       simp only [List.length_cons,List.length_take]
       omega
     · cases h
   · simp only [Option.some.injEq,Prod.mk.injEq] at h
     obtain ⟨rfl,_⟩:=h
     simp
theorem Fv:∀ (f:Nat) (s:List UInt8) (xs:List (List UInt8)),iM f s=some xs→∀ t∈xs,(t.length=1∨3≤t.length)∧t.length≤s.length:=by
 intro f
 induction f with
 | zero=>intro s xs h t a; simp only [iM] at h; split at h <;> first | (cases h; cases a) | cases h
 | succ f ih=>
   intro s xs h t a
   simp only [iM] at h
   split at h
   · cases h; cases a
   · cases hc:e4 s with
     | none=>rw [hc] at h; cases h
     | some q=>
       obtain ⟨u,r⟩:=q
       rw [hc] at h
       simp only at h
       cases hr:iM f r with
       | none=>rw [hr] at h; cases h
       | some i=>
         rw [hr] at h
         cases h
         rcases List.mem_cons.1 a with rfl | a
         · exact EH hc
         · have h1:=ih r i hr t a
           have h2:=sI hc
           exact ⟨h1.1,by omega⟩
theorem Fo {s:List UInt8} :(∀ t∈(cB s).1,(t.length=1∨3≤t.length)∧t.length≤s.length)∧(cB s).1.length≤16:=by
 unfold cB
 split
 · exact ⟨(fun t a=>by cases a),Nat.zero_le _⟩
 · split
   · exact ⟨(fun t a=>by cases a),Nat.zero_le _⟩
   · split
     · exact ⟨(fun t a=>by cases a),Nat.zero_le _⟩
     · rename_i xs h
       split
       · exact ⟨(fun t a=>by cases a),Nat.zero_le _⟩
       · exact ⟨(fun t a=>Fv _ _ _ h t a),by simp only; omega⟩
theorem yu {s:List UInt8} {k:Nat} :(s.drop k).getD 0 0=s.getD k 0:=by rw [List.getD_eq_getElem?_getD,List.getElem?_drop,← List.getD_eq_getElem?_getD]; rfl
theorem wU {s:List UInt8} {i m:Nat} (hb:s.getD i 0=91) (h:i+1 +m < s.length):91::(s.drop (i+1)).take (m+1)=(s.take (i+1 +m+1)).drop i:=by
 rw [List.drop_take,drop_cons 0 (show i < s.length by omega),hb,show i+1 +m+1 - i=m+1 +1 by omega,List.take_succ_cons]
theorem JG {s:List UInt8} {i:Nat} (h:i < s.length):(s.take (i+1)).drop i= [s.getD i 0]:=by
 rw [List.drop_take,drop_cons 0 h,show i+1 - i=0 +1 by omega,List.take_succ_cons,List.take_zero]
theorem CB {t:List UInt8} {b:UInt8} (h:t.length=1) (h1:¬t= [46]):((t.getD 0 0).toNat:Int)=(b.toNat:Int)↔t.getD 0 0=46∨t.getD 0 0=b:=by
 match t,h with
 | [c],_=>
   simp only [List.getD_cons_zero] at*
   constructor
   · intro h2; exact .inr (UInt8.toNat_inj.1 (by omega))
   · rintro (h2 | h2)
     · exact absurd (by rw [h2]) h1
     · rw [h2]
theorem zX {b:UInt8} (h:(b.toNat:Int)=94):b=94:=UInt8.toNat_inj.1 (by have :(94:UInt8).toNat=94:=rfl; omega)
theorem JC {b:UInt8} (h:¬(b.toNat:Int)=94):b≠94:=by rintro rfl; exact h rfl
theorem AD {l:List UInt8} {x:UInt8} (h:l.length=1) (a:l.getD 0 0=x):l= [x]:=by
 match l,h with
 | [c],_=>simp only [List.getD_cons_zero] at a; rw [a]
theorem KZ {f:UInt8→Bool} (h:¬(bytesOf f).length=256) (h1:(bytesOf f).length=1) (h2:(bytesOf f).getD 0 0=46):eU f= [91,46,93]:=by
 have e:=AD h1 h2
 have h3:¬f 93=true :=fun h4=>by have :=(wX f 93).2 h4; rw [e] at this; simp at this
 unfold eU; rw [if_neg h,if_neg (fun h4=>h4.2.1 h2),if_neg h3,e]; rfl
theorem K0 {f:UInt8→Bool} (h:¬(bytesOf f).length=256) (h1:(bytesOf f).length=1) (h2:(bytesOf f).getD 0 0=91):eU f= [91,91,93]:=by
 have e:=AD h1 h2
 have h3:¬f 93=true :=fun h4=>by have :=(wX f 93).2 h4; rw [e] at this; simp at this
 unfold eU; rw [if_neg h,if_neg (fun h4=>h4.2.2 h2),if_neg h3,e]; rfl
theorem Ab (s:List UInt8) (b:UInt8) (w:World) (hs:s.length≤1048576):
 aU Tryz.prog 187 (List.toArray [str s,.int .u8 b.toNat]) w (fun v w'=>v= .bool (decide (b∈s))∧Wk w w'):=by
 refine enter Tryz.func187 rfl Tryz.ntmps187 rfl ?_
 refine U (fun _ E=>(aj (((E _ _ (sq (fun _ G=>U (fun _ I=> ?_))))))))
 refine aj (((I _ _ (aA (lp (fun C a wI=> ∃ (i:Nat),(i≤s.length)∧(¬b∈s.take i)∧(wI=w)∧(a 0=str s)∧(a 1= .int .u8 b.toNat)∧(a 5=ae i)∧(s.length - i=C)) _ ⟨0,(by omega),((by simp)),rfl,rfl,rfl,rfl,rfl⟩ ?_)))))
 rintro C a wI ⟨i,hi,A,Y,aa,ab,ac,rfl⟩
 refine fx 0 aa (fx 1 ab (fx 5 ac ?_))
 subst Y
 refine sq (fun _ J=>U (fun _ M=>(ag (ae i) (ag (str s) (p (bK u9 rfl rfl) (p (lt rfl rfl) (nl ?_)))))))
 refine tn (M _ _ (cd rfl (fun Z=> ?_) (fun Z=> ?_)))
 refine az (tn (J _ _ (sq (fun _ j=>aA (U (fun _ O=>(ag (str s) (ag (ae i) ?_))))))))
 refine p (dA u9 rfl rfl (by omega)) (ag (.int .u8 b.toNat) (p (bf rfl rfl) (au ((O _ _ (cd rfl (fun q=> ?_) (fun q=> ?_)))))))
 refine U (fun _ V=>(aj (((V _ _ (rt (br (tr ?_))))))))
 exact tr (br (tr (f1 rfl rfl (⟨by show Value.bool true =_; rw [decide_eq_true (Ia (by omega) q)],Md.refl _ _⟩))))
 refine az (bn (tn (j _ _ (rg rfl (ag (ae i) (p (ad rfl rfl (bm (by omega))) (p ak (nl ?_))))))))
 exact tn (⟨_,by omega,i+1,(by omega),(Ib (by omega) A q),rfl,rfl,rfl,rfl,rfl⟩)
 refine ext (te _ (te _ (be (tn (G _ _ (U (fun _ j=>(p ak ?_))))))))
 exact au ((j _ _ (rt (f1 rfl rfl (⟨by show Value.bool false =_; rw [List.take_of_length_le (by omega)] at A; rw [decide_eq_false A],Md.refl _ _⟩)))))
theorem CC (t:List UInt8) (b:UInt8) (w:World) (aa:t.length=1∨3≤t.length) (htl:t.length≤1048576):
 aU Tryz.prog 182 (List.toArray [.agg [str t].toArray,.int .u8 b.toNat]) w (fun v w'=>v= .bool (bJ t b)∧Wk w w'):=by
 refine enter Tryz.func182 rfl Tryz.ntmps182 rfl ?_
 refine U (fun _ A=>(e (jt rfl fun Z ae hb2 i hB2=>aj (((A _ _ (U (fun _ C=> ?_))))))))
 refine p (fa G6 rfl) (p (ld bz rfl (hB2.aE 0)) (aj (((C _ _ (sq (fun _ E=>U (fun _ G=> ?_))))))))
 refine p mv (p (bK u9 rfl rfl) (p (bf rfl rfl) (au ((G _ _ (cd rfl (fun Y=> ?_) (fun Y=> ?_)))))))
 refine U (fun _ a=>(p mv (p (cI rfl rfl) (p mv (gs (t:=14) rfl (fun s=> ?_) (fun s=> ?_))))))
 refine sk rfl rfl rfl rfl (sk rfl rfl rfl rfl (sk rfl rfl rfl rfl (sk rfl rfl rfl rfl (p (bg rfl) (aj (((a _ _ ?_))))))))
 exact rt (tr (f1 rfl rfl (⟨by show Value.bool true =_; unfold bJ; rw [if_pos (show t.length=1 by omega)]; rw [decide_eq_true (.inl (by rw [s]; rfl))],i.md⟩)))
 refine pg rfl rfl rfl mv (pg rfl rfl rfl (fD 0 u9 rfl rfl (by omega)) (pg rfl rfl rfl (aC (.int .u8 b.toNat) rfl) (pg rfl rfl rfl (bf rfl rfl) (p (a5 rfl) (aj (((a _ _ ?_))))))))
 exact rt (tr (f1 rfl rfl (⟨by show Value.bool (decide _)=_; unfold bJ; rw [if_pos (show t.length=1 by omega)]; exact congrArg Value.bool (decide_eq_decide.2 (CB (by omega) s)),i.md⟩)))
 refine az (tn (E _ _ (sq (fun _ a=>U (fun _ I=>(p mv (p (fD 1 u9 rfl rfl (by omega)) (p (bf rfl rfl) ?_))))))))
 refine au ((I _ _ (cd rfl (fun q=> ?_) (fun q=> ?_))))
 refine U (fun _ j=>(p mv (p mv (p (bK u9 rfl rfl) (p (cM ((t.length - 1:Nat):Int) rfl rfl (aR (by omega) (by omega))) (p (iS u9 rfl rfl rfl (by omega)) (ag (.int .u8 b.toNat) ?_)))))))
 refine e (cl xz (Ab ((t.take (t.length - 1)).drop 2) b _ (by simp only [List.length_drop,List.length_take]; omega)) rfl fun ab w29 O=> ?_)
 obtain ⟨rfl,hE29⟩:=O
 refine aj (((j _ _ (U (fun _ J=>(p mv (p (no rfl) (p ak ?_))))))))
 exact au ((J _ _ (rt (tr (f1 rfl rfl (⟨by show Value.bool (!decide _)=_; unfold bJ; rw [if_neg (show ¬t.length=1 by omega),if_pos (UInt8.toNat_inj.1 (by have h94:(94:UInt8).toNat=94:=rfl; omega))],Md.trans i.md hE29⟩))))))
 refine az (tn (a _ _ (U (fun _ j=>(p mv (p mv (p (bK u9 rfl rfl) (p (cM ((t.length - 1:Nat):Int) rfl rfl (aR (by omega) (by omega))) ?_))))))))
 refine p (iS u9 rfl rfl rfl (by omega)) (ag (.int .u8 b.toNat) (e (cl xz (Ab ((t.take (t.length - 1)).drop 1) b _ (by simp only [List.length_drop,List.length_take]; omega)) rfl fun ac w38 V=> ?_)))
 obtain ⟨rfl,M⟩:=V
 exact aj (((j _ _ (rt (f1 rfl rfl (⟨by unfold bJ; rw [if_neg (show ¬t.length=1 by omega),if_neg (fun h=>by rw [h] at q; exact q rfl)]; rfl,Md.trans i.md M⟩))))))
theorem vU (t:List UInt8) (b:UInt8) (bi:Int) (w:World) (a:t.length=1∨3≤t.length) (htl:t.length≤1048576) (hbi:(b.toNat:Int)=bi):aU Tryz.prog 182 (List.toArray [.agg [str t].toArray,.int .u8 bi]) w (fun v w'=>v= .bool (bJ t b)∧Wk w w'):=by
 subst hbi; exact CC t b w a htl
theorem vV (t:List UInt8) (q:Bool) (w:World) (aI:t.length=1∨3≤t.length) (htl:t.length≤1048576):
 aU Tryz.prog 181 (List.toArray [.agg [str t].toArray,.bool q]) w (fun v w'=>World.ownsRow w' w.heap.size 5 1 (v) ((bytesOf (fun x=>decide (bJ t x=q)))).length (U8 ((bytesOf (fun x=>decide (bJ t x=q)))))∧Wk w w'):=by
 refine enter Tryz.func181 rfl Tryz.ntmps181 rfl ?_
 refine U (fun _ Z=>(e (jt rfl fun an I hb2 V hB2=>aj (((Z _ _ (U (fun _ aa=> ?_))))))))
 refine e (je eV fun b8 w8 hb8 av aq=> ?_)
 have ay:World.ownsRow w8 I.heap.size 5 1 (.slice (some ⟨b8,0,none⟩) 0 0) (([]:List UInt8)).length (U8 (([]:List UInt8))):=aq _ (by omega)
 refine aj (((aa _ _ (sq (fun _ ab=>U (fun _ ac=>(p ak (nl ?_))))))))
 refine tn (ac _ _ (aA (lp (fun O A wI=> ∃ (i:Nat) (a:Value),(i≤256)∧(World.ownsRow wI I.heap.size 5 1 (a) ((iK (fun x=>decide (bJ t x=q)) i)).length (U8 ((iK (fun x=>decide (bJ t x=q)) i))))∧(Wk I wI)∧(A 1= .bool q)∧(A 2=aH an)∧(A 5=a)∧(A 6=ae i)∧(256 - i=O)) _ ⟨0,.slice (some ⟨b8,0,none⟩) 0 0,(by omega),ay,av.md,rfl,rfl,rfl,rfl,rfl⟩ ?_)))
 rintro O A wI ⟨i,a,hi,G,E,aB,aC,aD,aF,rfl⟩
 refine fx 1 aB (fx 2 aC (fx 5 aD (fx 6 aF ?_)))
 have hbl:=lT (fun x=>decide (bJ t x=q)) i
 refine sq (fun _ ah=>U (fun _ ai=>(ag (ae i) (p (lt rfl rfl) (au ((ai _ _ (cd rfl (fun hc10=> ?_) (fun hc10=> ?_)))))))))
 refine az (tn (ah _ _ (sq (fun _ C=>aA (U (fun _ al=>(p (dB n8 rfl (rfl) (show ∀ j,j < 1→Hb.aE _ _ (0 +j)= [str t][j]? from fun j aN=>(by cases j with | zero=>exact (E.B hB2).aE 0 | succ j=>omega))) (ag (ae i) ?_))))))))
 refine p (ir u5 mi rfl (nW (by omega))) (e (cl xy (vU t (UInt8.ofNat i) _ _ aI htl (rI i (by omega))) rfl fun aO w16 hR16=> ?_))
 obtain ⟨rfl,s⟩:=hR16
 refine aj (((al _ _ (U (fun _ am=>(p mv (ag (.bool q) (p (Gr u4 rfl rfl) ?_))))))))
 refine au ((am _ _ (cd rfl (fun M=> ?_) (fun M=> ?_))))
 refine rg rfl (ag (a) (ag (ae i) (p (ir u5 mi rfl (nW (by omega))) (e (ec eV rfl rfl fun aK w23 aL J ao=> ?_)))))
 have hE23:Wk I w23:=Md.trans (Md.trans E s) J.md
 refine e (ap eV (aG (aG G s) J.md) rfl (by have :=hE23.size; omega) rfl (aw.cU ao) (rfl) (rfl) (by omega) (by omega) fun aJ aP Y ar hz24 aM=> ?_)
 have hE24:=Wk.own hE23 (aG (aG G s) J.md) ar (Nat.le_refl _)
 rw [← rI i (by omega)] at Y
 have ho24x:=l9 Y
 refine p ak (nl (bn (tn (C _ _ (rg rfl (ag (ae i) (p (bc ((i+1:Nat):Int) rfl rfl (aR (by omega) (by omega))) (p ak ?_))))))))
 exact au ((⟨_,by omega,i+1,aJ,(by omega),((by rw [nd,if_pos (decide_eq_true M)]; exact ho24x)),hE24,rfl,rfl,rfl,rfl,rfl⟩))
 refine az (bn (tn (C _ _ (rg rfl (ag (ae i) (p (bc ((i+1:Nat):Int) rfl rfl (aR (by omega) (by omega))) (p ak (nl ?_))))))))
 exact tn (⟨_,by omega,i+1,a,(by omega),((by rw [nd,if_neg (fun h=>M (of_decide_eq_true h)),List.append_nil]; exact aG G s)),(Md.trans E s),rfl,rfl,rfl,rfl,rfl⟩)
 refine ext (te _ (te _ (be (tn (ab _ _ (U (fun _ C=>(ag (a) ?_))))))))
 refine p (bF (a) rfl) (au ((C _ _ (rt (f1 rfl rfl ?_)))))
 have ax:i=256:=by omega
 subst ax
 exact ⟨gi G V.md.size,Md.trans V.md E⟩
theorem La (t:List UInt8) (w:World) (av:t.length=1∨3≤t.length) (htl:t.length≤1048576):
 aU Tryz.prog 168 (List.toArray [.agg [str t].toArray]) w (fun v w'=>v=str (eU (bJ t))∧Wk w w'):=by
 have bF:(bytesOf (bJ t)).length≤256:=lT _ 256
 have hnl:(bytesOf (fun x=> !bJ t x)).length≤256:=lT _ 256
 have hba:=C9 (f:=bJ t)
 refine enter Tryz.func168 rfl Tryz.ntmps168 rfl ?_
 refine sq (fun _ aO=> ?_)
 refine rg rfl ?_
 refine e (jt rfl fun a2 w1 bz a9 hB1=> ?_)
 refine p ak ?_
 refine nl ?_
 refine tn (aO _ _ ?_)
 refine sq (fun _ aW=> ?_)
 refine rg rfl ?_
 refine p (dB n8 rfl (rfl) (show ∀ j,j < 1→Hb.aE _ _ (0 +j)= [str t][j]? from fun j aK=>(by cases j with | zero=>exact (hB1).aE 0 | succ j=>omega))) ?_
 refine e (cl xx (vV t true _ av htl) rfl fun v10 w10 hR10=> ?_)
 obtain ⟨ho10,aF⟩:=hR10
 rw [wW (g:=bJ t) (fun x=>by cases bJ t x <;> rfl)] at ho10
 obtain ⟨O,U,rfl⟩:=bW ho10
 have hCY:=(aM ho10).2
 have hB10:=aF.B hB1
 refine p ak ?_
 refine nl ?_
 refine tn (aW _ _ ?_)
 refine sq (fun _ aX=> ?_)
 refine rg rfl ?_
 refine p (dB n8 rfl (rfl) (show ∀ j,j < 1→Hb.aE _ _ (0 +j)= [str t][j]? from fun j aK=>(by cases j with | zero=>exact (hB10).aE 0 | succ j=>omega))) ?_
 refine e (cl xx (vV t false _ av htl) rfl fun cC w12 bd=> ?_)
 obtain ⟨ho12,hE12⟩:=bd
 rw [wW (g:=fun x=> !bJ t x) (fun x=>by cases bJ t x <;> rfl)] at ho12
 obtain ⟨bu,bx,rfl⟩:=bW ho12
 have hCY:=hCY.wk hE12
 have hB12:=hE12.B hB10
 have V:Wk w w12:=Md.trans a9.md (Md.trans aF hE12)
 refine p ak ?_
 refine nl ?_
 refine tn (aX _ _ ?_)
 refine sq (fun _ aY=> ?_)
 refine sq (fun _ aZ=> ?_)
 refine rg rfl ?_
 refine p mv ?_
 refine p (ba jr rfl rfl) ?_
 refine p (bf rfl rfl) ?_
 refine nl ?_
 refine tn (aZ _ _ ?_)
 refine cd rfl (fun hc15=> ?_) (fun hc15=> ?_)
 refine sq (fun _ ah=> ?_)
 refine rg rfl ?_
 refine p ak ?_
 refine nl ?_
 refine tn (ah _ _ ?_)
 refine rt ?_
 refine tr ?_
 refine f1 rfl rfl ?_
 exact ⟨by unfold eU; rw [if_pos (hba.1 (by omega))]; rfl,V⟩
 refine az ?_
 refine tn (aY _ _ ?_)
 refine sq (fun _ ah=> ?_)
 refine sq (fun _ a0=> ?_)
 refine rg rfl ?_
 refine p mv ?_
 refine p (ba jr rfl rfl) ?_
 refine p (bf rfl rfl) ?_
 refine nl ?_
 refine tn (a0 _ _ ?_)
 refine cd rfl (fun hc18=> ?_) (fun hc18=> ?_)
 refine sq (fun _ ai=> ?_)
 refine sq (fun _ aj=> ?_)
 refine rg rfl ?_
 refine p mv ?_
 refine p (aJ iO rfl rfl (by omega) (aw.ok (hCY) (lB (by omega)))) ?_
 refine p (ld kV rfl (lA (i:=0) hCY (by omega))) ?_
 refine p (bf rfl rfl) ?_
 refine nl ?_
 refine tn (aj _ _ ?_)
 refine cd rfl (fun an=> ?_) (fun an=> ?_)
 refine sq (fun _ I=> ?_)
 refine rg rfl ?_
 refine p ak ?_
 refine nl ?_
 refine tn (I _ _ ?_)
 refine rt ?_
 refine tr ?_
 refine tr ?_
 refine f1 rfl rfl ?_
 exact ⟨by rw [KZ (by omega) (by omega) (tW an)]; rfl,V⟩
 refine az ?_
 refine tn (ai _ _ ?_)
 refine sq (fun _ I=> ?_)
 refine sq (fun _ J=> ?_)
 refine rg rfl ?_
 refine p mv ?_
 refine p (aJ iO rfl rfl (by omega) (aw.ok (hCY) (lB (by omega)))) ?_
 refine p (ld kV rfl (lA (i:=0) hCY (by omega))) ?_
 refine p (bf rfl rfl) ?_
 refine nl ?_
 refine tn (J _ _ ?_)
 refine cd rfl (fun ao=> ?_) (fun ao=> ?_)
 refine sq (fun _ M=> ?_)
 refine rg rfl ?_
 refine p ak ?_
 refine nl ?_
 refine tn (M _ _ ?_)
 refine rt ?_
 refine tr ?_
 refine tr ?_
 refine f1 rfl rfl ?_
 exact ⟨by rw [K0 (by omega) (by omega) (qL ao)]; rfl,V⟩
 refine az ?_
 refine tn (I _ _ ?_)
 refine sq (fun _ M=> ?_)
 refine rg rfl ?_
 refine ag (.slice O (bytesOf (bJ t)).length U) ?_
 refine p (jw ju rfl (hCY) (rfl)) ?_
 refine p ak ?_
 refine nl ?_
 refine tn (M _ _ ?_)
 refine rt ?_
 refine tr ?_
 refine f1 rfl rfl ?_
 exact ⟨by unfold eU; rw [if_neg (show ¬(bytesOf (bJ t)).length=256 by omega),if_pos ⟨by omega,uu an,oO ao⟩]; rfl,V⟩
 refine az ?_
 refine tn (ah _ _ ?_)
 refine sq (fun _ ai=> ?_)
 refine rg rfl ?_
 refine p (dB n8 rfl (rfl) (show ∀ j,j < 1→Hb.aE _ _ (0 +j)= [str t][j]? from fun j aK=>(by cases j with | zero=>exact (hB12).aE 0 | succ j=>omega))) ?_
 refine e (cl xy (vU t 93 _ _ av htl rfl) rfl fun v30 w30 bg=> ?_)
 obtain ⟨rfl,C⟩:=bg
 have hE30x:=Md.trans V C
 refine p ak ?_
 refine nl ?_
 refine tn (ai _ _ ?_)
 refine sq (fun _ aj=> ?_)
 refine sq (fun _ I=> ?_)
 refine rg rfl ?_
 refine p mv ?_
 refine nl ?_
 refine tn (I _ _ ?_)
 refine cb rfl (fun aq=> ?_) (fun aq=> ?_)
 refine sq (fun _ J=> ?_)
 refine rg rfl ?_
 refine p mv ?_
 refine p (jw ju rfl ((aM (aG ho12 C)).2) (rfl)) ?_
 refine p (cc rfl rfl (by simp only [List.length_cons,List.length_nil]; omega)) ?_
 refine p (cc rfl rfl (by simp only [List.length_cons,List.length_nil,List.length_append]; omega)) ?_
 refine p ak ?_
 refine nl ?_
 refine tn (J _ _ ?_)
 refine rt ?_
 refine tr ?_
 refine f1 rfl rfl ?_
 exact ⟨by unfold eU; rw [if_neg (show ¬(bytesOf (bJ t)).length=256 by omega),if_neg (show ¬((bytesOf (bJ t)).length=1∧_) from fun h=>by omega),if_pos aq]; rfl,hE30x⟩
 refine az ?_
 refine tn (aj _ _ ?_)
 refine sq (fun _ J=> ?_)
 refine rg rfl ?_
 refine e (je eV fun ay w36 bA bb a3=> ?_)
 have bl:World.ownsRow w36 w30.heap.size 5 1 (.slice (some ⟨ay,0,none⟩) 0 0) (([]:List UInt8)).length (U8 (([]:List UInt8))):=a3 _ (by omega)
 refine p ak ?_
 refine nl ?_
 refine tn (J _ _ ?_)
 refine sq (fun _ M=> ?_)
 refine rg rfl ?_
 refine p ak ?_
 refine nl ?_
 refine tn (M _ _ ?_)
 refine sq (fun _ aP=> ?_)
 refine sq (fun _ aQ=> ?_)
 refine rg rfl ?_
 refine p ak ?_
 refine nl ?_
 refine tn (aQ _ _ ?_)
 refine aA ?_
 refine lp (fun aD G wI=> ∃ (i:Nat) (ob:Bool) (aa:Value),(i≤(bytesOf (bJ t)).length)∧(ob=decide (94∈(bytesOf (bJ t)).take i))∧(World.ownsRow wI w30.heap.size 5 1 (aa) ((((bytesOf (bJ t)).take i).filter (fun b=>decide (b≠94)))).length (U8 ((((bytesOf (bJ t)).take i).filter (fun b=>decide (b≠94))))))∧(Wk w30 wI)∧(G 1=aH a2)∧(G 3= .slice O (bytesOf (bJ t)).length U)∧(G 6=aa)∧(G 7= .bool ob)∧(G 8=ae i)∧((bytesOf (bJ t)).length - i=aD)) _ ⟨0,false,.slice (some ⟨ay,0,none⟩) 0 0,(by omega),rfl,bl,bb.md,rfl,rfl,rfl,rfl,rfl,rfl⟩ ?_
 rintro aD G wI ⟨i,ob,aa,hi,E,q,a,bm,bo,bp,bq,br,rfl⟩
 refine fx 1 bm (fx 3 bo (fx 6 bp (fx 7 bq (fx 8 br ?_))))
 have hfl:(((bytesOf (bJ t)).take i).filter (fun b=>decide (b≠94))).length≤256:=Nat.le_trans (List.length_filter_le _ _) (by rw [List.length_take]; omega)
 refine sq (fun _ aS=> ?_)
 refine sq (fun _ aT=> ?_)
 refine rg rfl ?_
 refine ag (ae i) ?_
 refine ag (.slice O (bytesOf (bJ t)).length U) ?_
 refine p (ba jr rfl rfl) ?_
 refine p (lt rfl rfl) ?_
 refine nl ?_
 refine tn (aT _ _ ?_)
 refine cd rfl (fun bh=> ?_) (fun bh=> ?_)
 refine az ?_
 refine tn (aS _ _ ?_)
 refine sq (fun _ A=> ?_)
 refine aA ?_
 refine sq (fun _ aV=> ?_)
 refine rg rfl ?_
 refine ag (.slice O (bytesOf (bJ t)).length U) ?_
 refine ag (ae i) ?_
 refine p (aJ iO rfl rfl (by omega) (aw.ok (hCY.wk (Md.trans C a)) (lB (by omega)))) ?_
 refine p (ld kV rfl (lA (i:=i) (hCY.wk (Md.trans C a)) (by omega))) ?_
 refine p (bf rfl rfl) ?_
 refine nl ?_
 refine tn (aV _ _ ?_)
 refine cd rfl (fun ar=> ?_) (fun ar=> ?_)
 have h94:=zX ar
 refine rg rfl ?_
 refine p ak ?_
 refine nl ?_
 refine bn ?_
 refine tn (A _ _ ?_)
 refine rg rfl ?_
 refine ag (ae i) ?_
 refine p (bc ((i+1:Nat):Int) rfl rfl (aR (by omega) (by omega))) ?_
 refine p ak ?_
 refine nl ?_
 refine tn ?_
 exact ⟨_,by omega,i+1,true,aa,(by omega),((by rw [eh _ i 0 (by omega),h94,decide_eq_true (by simp)])),((by rw [eh _ i 0 (by omega),h94,List.filter_append,List.filter_cons_of_neg (by simp),List.filter_nil,List.append_nil]; exact q)),a,rfl,rfl,rfl,rfl,rfl,rfl⟩
 have h94:=JC ar
 refine rg rfl ?_
 refine ag (aa) ?_
 refine ag (.slice O (bytesOf (bJ t)).length U) ?_
 refine ag (ae i) ?_
 refine p (aJ iO rfl rfl (by omega) (aw.ok (hCY.wk (Md.trans C a)) (lB (by omega)))) ?_
 refine p (ld kV rfl (lA (i:=i) (hCY.wk (Md.trans C a)) (by omega))) ?_
 refine e (ec eV rfl rfl fun bv w53 bB al a4=> ?_)
 have aI:Wk w30 w53:=Md.trans a al.md
 refine e (ap eV (aG q al.md) rfl (by have :=aI.size; omega) rfl (aw.cU a4) (rfl) (rfl) (by omega) (by omega) fun bt bI bj a7 bG bD=> ?_)
 have hE54:=Wk.own aI (aG q al.md) a7 (Nat.le_refl _)
 have ho54x:=l9 bj
 refine p ak ?_
 refine nl ?_
 refine bn ?_
 refine tn (A _ _ ?_)
 refine rg rfl ?_
 refine ag (ae i) ?_
 refine p (bc ((i+1:Nat):Int) rfl rfl (aR (by omega) (by omega))) ?_
 refine p ak ?_
 refine nl ?_
 refine tn ?_
 exact ⟨_,by omega,i+1,ob,bt,(by omega),((by rw [eh _ i 0 (by omega),E]; exact decide_eq_decide.2 (by rw [List.mem_append,List.mem_singleton]; exact ⟨.inl,fun h=>h.elim id (fun h=>absurd h.symm h94)⟩))),((by rw [eh _ i 0 (by omega),List.filter_append,List.filter_cons_of_pos (by simpa using h94),List.filter_nil]; exact ho54x)),hE54,rfl,rfl,rfl,rfl,rfl,rfl⟩
 refine ext ?_
 refine te _ ?_
 refine te _ ?_
 refine be ?_
 refine tn (aP _ _ ?_)
 refine c7 (fun aN wC=> ∃ (ab:Option Addr) (s ac:Nat),(((bytesOf (bJ t)).filter (fun b=>decide (b≠94))++(if 94∈(bytesOf (bJ t)) then [94] else [])).length=s)∧(World.ownsRow wC w30.heap.size 5 1 (.slice ab s ac) s (U8 ((bytesOf (bJ t)).filter (fun b=>decide (b≠94))++(if 94∈(bytesOf (bJ t)) then [94] else []))))∧(Wk w wC)∧(s≤300)∧(aN 6= .slice ab s ac)) ?_ ?_
 refine sq (fun _ A=> ?_)
 obtain ⟨ax,aB,rfl⟩:=bW q
 have Z:(bytesOf (bJ t)).take i=bytesOf (bJ t):=List.take_of_length_le (by omega)
 rw [Z] at E
 refine rg rfl ?_
 refine ag (.bool ob) ?_
 refine nl ?_
 refine tn (A _ _ ?_)
 refine cb rfl (fun Y=> ?_) (fun Y=> ?_)
 refine rg rfl ?_
 refine p (aC (.slice ax (((bytesOf (bJ t)).take i).filter (fun b=>decide (b≠94))).length aB) rfl) ?_
 refine e (ec eV rfl rfl fun bw w57 bC am a5=> ?_)
 have hE57:Wk w30 w57:=Md.trans a am.md
 refine e (ap eV (aG q am.md) rfl (by have :=hE57.size; omega) rfl (aw.cU a5) (rfl) (rfl) (by omega) (by omega) fun bH w58 au a8 hz58 bE=> ?_)
 have hE58:=Wk.own hE57 (aG q am.md) a8 (Nat.le_refl _)
 rw [Z] at au
 have ho58x:=l9 (x:=94) au
 obtain ⟨a1,c2,rfl⟩:=bW au
 refine p ak ?_
 refine nl ?_
 refine tn ?_
 exact ⟨a1,_,c2,((by rw [if_pos (of_decide_eq_true (E ▸ Y)),List.length_append]; rfl)),((by rw [if_pos (of_decide_eq_true (E ▸ Y))]; rw [List.length_append] at ho58x; exact ho58x)),(Md.trans hE30x hE58),((by rw [← Z]; omega)),rfl⟩
 refine az ?_
 refine tn ?_
 exact ⟨ax,_,aB,((by rw [if_neg (of_decide_eq_false (E ▸ Y)),List.append_nil,Z])),((by rw [if_neg (of_decide_eq_false (E ▸ Y)),List.append_nil]; have h3:=q; rw [Z] at h3 ⊢; exact h3)),(Md.trans hE30x a),((by omega)),rfl⟩
 rintro aN wC ⟨ab,s,ac,aL,bk,a6,bi,bs⟩
 refine fx 6 bs ?_
 have hF3:((bytesOf (bJ t)).filter (fun b=>decide (b≠94))++(if 94∈(bytesOf (bJ t)) then [94] else [])).length≤300:=by rw [aL]; exact bi
 refine sq (fun _ A=> ?_)
 refine rg rfl ?_
 refine ag (.slice ab s ac) ?_
 refine p (jw ju rfl ((aM bk).2) (aL)) ?_
 refine p (cc rfl rfl (Nat.le_trans (Nat.add_le_add_left hF3 _) (by decide))) ?_
 refine p (cc rfl rfl (by rw [List.length_append]; exact Nat.le_trans (Nat.add_le_add_right (Nat.add_le_add_left hF3 _) _) (by decide))) ?_
 refine p ak ?_
 refine nl ?_
 refine tn (A _ _ ?_)
 refine rt ?_
 refine f1 rfl rfl ?_
 exact ⟨by unfold eU; rw [if_neg (show ¬(bytesOf (bJ t)).length=256 by omega),if_neg (show ¬((bytesOf (bJ t)).length=1∧_) from fun h=>by omega),if_neg (show ¬bJ t 93=true from by rw [aq]; exact Bool.noConfusion)]; rfl,a6⟩
theorem EZ (s:List UInt8) (i:Nat) (w:World) (hs:s.length≤1048576) (hi:i≤s.length):
 aU Tryz.prog 167 (List.toArray [str s,ae i]) w (fun v w'=>v= .int .i64 (kZ s i)∧Wk w w'):=by
 refine enter Tryz.func167 rfl Tryz.ntmps167 rfl ?_
 refine U (fun _ I=>(aj (((I _ _ (sq (fun _ J=>aA (lp (fun G E wI=> ∃ (k:Nat),(i≤k∧k≤s.length)∧(∀ j,i≤j→j < k→s.getD j 0≠93)∧(wI=w)∧(E 0=str s)∧(E 1=ae k)∧(s.length - k=G)) _ ⟨i,(by omega),((fun j h1 h2=>by omega)),rfl,rfl,rfl,rfl⟩ ?_))))))))
 rintro G E wI ⟨k,hk,C,Z,aa,ab,rfl⟩
 refine fx 0 aa (fx 1 ab ?_)
 subst Z
 refine sq (fun _ M=>U (fun _ O=>(ag (ae k) (ag (str s) (p (bK u9 rfl rfl) (p (lt rfl rfl) (nl ?_)))))))
 refine tn (O _ _ (cd rfl (fun hc8=> ?_) (fun hc8=> ?_)))
 refine az (tn (M _ _ (aA (sq (fun _ a=>U (fun _ V=>(ag (str s) (ag (ae k) ?_))))))))
 refine p (dA u9 rfl rfl (by omega)) (p (bf rfl rfl) (au ((V _ _ (cd rfl (fun A=> ?_) (fun A=> ?_))))))
 have q:s.getD k 0=93:=UInt8.toNat_inj.1 (by have :(93:UInt8).toNat=93:=rfl; omega)
 refine U (fun _ Y=>(ag (ae k) (p (bF (ae k) rfl) (au ((Y _ _ (rt (tr ?_))))))))
 exact br (tr (br (tr (f1 rfl rfl (⟨by rw [E3 (k:=k) (by omega) C q]; rfl,Md.refl _ _⟩)))))
 have q:s.getD k 0≠93:=fun h=>by rw [h] at A; exact A rfl
 refine az (tn (a _ _ (rg rfl (ag (ae k) (p (bc ((k+1:Nat):Int) rfl rfl (aR (by omega) (by omega))) (p ak (nl (bn ?_))))))))
 exact tn (⟨_,by omega,k+1,(by omega),((fun j h1 h2=>by rcases Nat.lt_or_ge j k with h | h <;> first | exact C j h1 h | (rw [show j=k by omega]; exact q))),rfl,rfl,rfl,rfl⟩)
 refine ext (te _ (te _ (be (tn (J _ _ (U (fun _ a=>(p ak ?_))))))))
 exact au ((a _ _ (rt (f1 rfl rfl (⟨by rw [E4 (fun j h1 h2=>C j h1 (by omega))]; rfl,Md.refl _ _⟩)))))
theorem Kj (s:List UInt8) (w:World) (hs:s.length≤1048576):
 aU Tryz.prog 142 (List.toArray [str s]) w (fun v w'=>(∃ a,v= .tuple #[a,ae ((cB s).2)]∧World.ownsRow w' w.heap.size 261 1 (a) ((cB s).1).length (((cB s).1).map str))∧Wk w w'):=by
 refine enter Tryz.func142 rfl Tryz.ntmps142 rfl ?_
 refine U (fun _ aD=>(p ak (aj (((aD _ _ (sq (fun _ aF=>sq (fun _ aq=> ?_)))))))))
 refine rg rfl (ag (str s) (p (bK u9 rfl rfl) (p (bf rfl rfl) (p mv (gs (t:=11) rfl (fun hg11=> ?_) (fun hg11=> ?_))))))
 refine sk rfl rfl rfl rfl (sk rfl rfl rfl rfl (sk rfl rfl rfl rfl (p (bg rfl) (au ((aq _ _ (ct rfl (sq (fun _ O=> ?_)))))))))
 refine rg rfl (p ak (aj (((O _ _ (rt (tr (f2 rfl rfl rfl ?_))))))))
 exact ⟨⟨.slice none 0 0,by unfold cB; rw [if_pos (.inl (List.eq_nil_of_length_eq_zero (by omega)))]; rfl,by unfold cB; rw [if_pos (.inl (List.eq_nil_of_length_eq_zero (by omega)))]; exact World.ownsRow_nil _ _ _ _⟩,Md.refl _ _⟩
 refine pg rfl rfl rfl (aC (str s) rfl) (pg rfl rfl rfl (bK u9 rfl rfl) (pg rfl rfl rfl (gt rfl rfl) (p (a5 rfl) (au ((aq _ _ (cd rfl (fun hc15=> ?_) (fun hc15=> ?_))))))))
 refine U (fun _ O=>(p ak (aj (((O _ _ (rt (tr ?_))))))))
 exact f2 rfl rfl rfl (⟨⟨.slice none 0 0,by unfold cB; rw [if_pos (.inr (by omega))]; rfl,by unfold cB; rw [if_pos (.inr (by omega))]; exact World.ownsRow_nil _ _ _ _⟩,Md.refl _ _⟩)
 refine az (tn (aF _ _ (U (fun _ O=>(aj (((O _ _ (sq (fun _ aH=> ?_))))))))))
 refine U (fun _ aI=>(ag (str s) (p (cI rfl rfl) (au ((aI _ _ (cd rfl (fun C=> ?_) (fun C=> ?_))))))))
 refine U (fun _ ac=>(p mv (p ak (aj (((ac _ _ (rt ?_))))))))
 refine tr (f2 rfl rfl rfl ?_)
 have ay:¬(s= []∨512 < s.length):=fun h=>h.elim (fun h=>by rw [h] at hg11; exact hg11 rfl) (fun h=>by omega)
 exact ⟨⟨.slice none 0 0,by unfold cB; rw [if_neg ay,if_pos C]; rfl,by unfold cB; rw [if_neg ay,if_pos C]; exact World.ownsRow_nil _ _ _ _⟩,Md.refl _ _⟩
 refine az (tn (aH _ _ (U (fun _ ac=>(aj (((ac _ _ (sq (fun _ aJ=> ?_))))))))))
 refine aA (lp (fun ar aa wI=> ∃ (i:Nat) (dn:List (List UInt8)) (G:Value),(i≤s.length∧dn.length≤i)∧(gD s i dn)∧(World.ownsRow wI w.heap.size 261 1 (G) (dn).length ((dn).map str))∧(Wk w wI)∧(aa 0=str s)∧(aa 4=G)∧(aa 5=ae i)∧(s.length - i=ar)) _ ⟨0,[],.slice none 0 0,((by simp)),(gD.start s),(World.ownsRow_nil _ _ _ _),(Md.refl _ _),rfl,rfl,rfl,rfl⟩ ?_)
 rintro ar aa wI ⟨i,dn,G,hi,E,V,A,aZ,a0,a1,rfl⟩
 refine fx 0 aZ (fx 4 a0 (fx 5 a1 (sq (fun _ aK=>U (fun _ aE=>(ag (ae i) (ag (str s) (p (bK u9 rfl rfl) (p (lt rfl rfl) ?_)))))))))
 refine au ((aE _ _ (cd rfl (fun aP=> ?_) (fun aP=> ?_))))
 refine az (tn (aK _ _ (aA (U (fun _ ab=>(ag (ae i) (p (bc ((i+1:Nat):Int) rfl rfl (aR (by omega) (by omega))) (p ak ?_))))))))
 refine au ((ab _ _ ?_))
 refine c7 (fun Y wC=> ∃ (j:Nat),(i < j∧j≤s.length)∧(gD s j (dn++ [(s.take j).drop i]))∧(World.ownsRow wC w.heap.size 261 1 (G) (dn).length ((dn).map str))∧(Wk w wC)∧(Y 0=str s)∧(Y 4=G)∧(Y 5=ae i)∧(Y 6=ae j)) ?_ ?_
 refine U (fun _ I=>(ag (str s) (ag (ae i) (p (dA u9 rfl rfl (by omega)) (p (bf rfl rfl) (au ((I _ _ ?_))))))))
 refine cd rfl (fun am=> ?_) (fun am=> ?_)
 refine U (fun _ J=>(ag (str s) (ag (ae i) (e (cl DO (EZ s i _ hs (by omega)) rfl fun bi w31 aO=> ?_)))))
 obtain ⟨rfl,hE31⟩:=aO
 have hb91:=qL am
 obtain ⟨ax,aS⟩:=E2 (show i < s.length by omega) hb91
 have hdi:=drop_cons (l:=s) (i:=i) 0 (by omega)
 have hdl:(s.drop (i+1)).length=s.length - (i+1):=List.length_drop
 refine aj (((J _ _ (sq (fun _ ao=>U (fun _ Z=>(p mv (p (lt rfl rfl) ?_))))))))
 refine p mv (gs (t:=34) rfl (fun aT=> ?_) (fun aT=> ?_))
 have q:e4 (s.drop i)=none:=by
  rw [hdi,hb91]
  exact pY rfl (fun h=>(ax.1 (by omega)) h.1)
 have hcr:=E.bad (by omega) q
 refine sk rfl rfl rfl rfl (sk rfl rfl rfl rfl (sk rfl rfl rfl rfl (sk rfl rfl rfl rfl (p (bg rfl) (p mv (sk rfl rfl rfl rfl (sk rfl rfl rfl rfl ?_)))))))
 refine sk rfl rfl rfl rfl (sk rfl rfl rfl rfl (sk rfl rfl rfl rfl (eu rfl rfl rfl (eu rfl rfl rfl (eu rfl rfl rfl (eu rfl rfl rfl (eu rfl rfl rfl ?_)))))))
 refine sk rfl rfl rfl rfl (p (bg rfl) (au ((Z _ _ (ct rfl (U (fun _ M=>(p ak ?_))))))))
 refine aj (((M _ _ (rt (tr (tr (br (tr ?_))))))))
 refine br (tr (f2 rfl rfl rfl ?_))
 have hz:cB s=([],41):=by unfold cB; rw [if_neg (fun h=>h.elim (fun h=>by rw [h] at hg11; exact hg11 rfl) (fun h=>by omega)),if_neg C,hcr]
 exact ⟨⟨.slice none 0 0,by rw [hz]; rfl,by rw [hz]; exact World.ownsRow_nil _ _ _ _⟩,Md.trans A hE31⟩
 have hck:=aS (by omega)
 have hml:(s.drop (i+1)).idxOf 93 < (s.drop (i+1)).length:=Decidable.of_not_not (fun h=>by have :=ax.2 h; omega)
 refine pg rfl rfl rfl mv (pg rfl rfl rfl (aC (ae i) rfl) (pg rfl rfl rfl (bc ((i+1:Nat):Int) rfl rfl (aR (by omega) (by omega))) (pg rfl rfl rfl (bf rfl rfl) (p (a5 rfl) (p mv (gs (t:=40) rfl (fun aV=> ?_) (fun aV=> ?_)))))))
 have q:e4 (s.drop i)=none:=by
  rw [hdi,hb91]
  exact pY rfl (fun h=>h.2.1 (by omega))
 have hcr:=E.bad (by omega) q
 refine sk rfl rfl rfl rfl (sk rfl rfl rfl rfl (sk rfl rfl rfl rfl (sk rfl rfl rfl rfl (sk rfl rfl rfl rfl (eu rfl rfl rfl (eu rfl rfl rfl (eu rfl rfl rfl ?_)))))))
 refine eu rfl rfl rfl (eu rfl rfl rfl (sk rfl rfl rfl rfl (p (bg rfl) (au ((Z _ _ (ct rfl (sq (fun _ M=> ?_)))))))))
 refine rg rfl (p ak (aj (((M _ _ (rt (tr (tr ?_))))))))
 refine br (tr (br (tr (f2 rfl rfl rfl ?_))))
 have hz:cB s=([],41):=by unfold cB; rw [if_neg (fun h=>h.elim (fun h=>by rw [h] at hg11; exact hg11 rfl) (fun h=>by omega)),if_neg C,hcr]
 exact ⟨⟨.slice none 0 0,by rw [hz]; rfl,by rw [hz]; exact World.ownsRow_nil _ _ _ _⟩,Md.trans A hE31⟩
 refine pg rfl rfl rfl mv (pg rfl rfl rfl (aC (ae i) rfl) (pg rfl rfl rfl (bc ((i+2:Nat):Int) rfl rfl (aR (by omega) (by omega))) (pg rfl rfl rfl (bf rfl rfl) (pg rfl rfl rfl mv (gs (t:=45) rfl (fun aW=> ?_) (fun aW=> ?_))))))
 refine pg rfl rfl rfl (aC (str s) rfl) (pg rfl rfl rfl (aC (ae i) rfl) (pg rfl rfl rfl (bc ((i+1:Nat):Int) rfl rfl (aR (by omega) (by omega))) (pg rfl rfl rfl (dA u9 rfl rfl (by omega)) (pg rfl rfl rfl (bf rfl rfl) (pg rfl rfl rfl (bg rfl) (p (a5 rfl) (nl ?_)))))))
 refine tn (Z _ _ (cd rfl (fun an=> ?_) (fun an=> ?_)))
 have q:e4 (s.drop i)=none:=by
  rw [hdi,hb91]
  exact pY rfl (fun h=>h.2.2 ⟨by omega,by rw [yu]; exact zX an⟩)
 have hcr:=E.bad (by omega) q
 refine U (fun _ M=>(p ak (aj (((M _ _ (rt (tr ?_))))))))
 refine tr (br (tr (br (tr (f2 rfl rfl rfl ?_)))))
 have hz:cB s=([],41):=by unfold cB; rw [if_neg (fun h=>h.elim (fun h=>by rw [h] at hg11; exact hg11 rfl) (fun h=>by omega)),if_neg C,hcr]
 exact ⟨⟨.slice none 0 0,by rw [hz]; rfl,by rw [hz]; exact World.ownsRow_nil _ _ _ _⟩,Md.trans A hE31⟩
 have q:e4 (s.drop i)=some (91::(s.drop (i+1)).take ((s.drop (i+1)).idxOf 93 +1),(s.drop (i+1)).drop ((s.drop (i+1)).idxOf 93 +1)):=by
  rw [hdi,hb91]
  exact sJ rfl hml (by omega) (fun h=>an (by rw [← yu,h.2]; rfl))
 have hgo2:=E.step (j:=i+1 +(s.drop (i+1)).idxOf 93 +1) q (by rw [List.drop_drop]; rfl)
 rw [wU hb91 (by omega)] at hgo2
 refine az (tn (ao _ _ (rg rfl (p mv (p (bc ((i+1 +(s.drop (i+1)).idxOf 93 +1:Nat):Int) rfl rfl (aR (by omega) (by omega))) (p ak (nl (tn ?_))))))))
 exact ⟨i+1 +(s.drop (i+1)).idxOf 93 +1,((by omega)),hgo2,(aG V hE31),(Md.trans A hE31),rfl,rfl,rfl,rfl⟩
 have q:e4 (s.drop i)=some (91::(s.drop (i+1)).take ((s.drop (i+1)).idxOf 93 +1),(s.drop (i+1)).drop ((s.drop (i+1)).idxOf 93 +1)):=by
  rw [hdi,hb91]
  exact sJ rfl hml (by omega) (fun h=>by omega)
 have hgo2:=E.step (j:=i+1 +(s.drop (i+1)).idxOf 93 +1) q (by rw [List.drop_drop]; rfl)
 rw [wU hb91 (by omega)] at hgo2
 refine sk rfl rfl rfl rfl (sk rfl rfl rfl rfl (sk rfl rfl rfl rfl (sk rfl rfl rfl rfl (sk rfl rfl rfl rfl (pg rfl rfl rfl (a5 rfl) (p (a5 rfl) (nl ?_)))))))
 refine tn (Z _ _ (cf rfl (az (tn (ao _ _ (rg rfl (p mv (p (bc ((i+1 +(s.drop (i+1)).idxOf 93 +1:Nat):Int) rfl rfl (aR (by omega) (by omega))) (p ak ?_)))))))))
 exact au ((⟨i+1 +(s.drop (i+1)).idxOf 93 +1,((by omega)),hgo2,(aG V hE31),(Md.trans A hE31),rfl,rfl,rfl,rfl⟩))
 have hn91:=oO am
 have hdi:=drop_cons (l:=s) (i:=i) 0 (by omega)
 have q:e4 (s.drop i)=some ([s.getD i 0],s.drop (i+1)):=by rw [hdi]; exact xQ hn91
 have hgo2:=E.step (j:=i+1) q rfl
 rw [← JG (show i < s.length by omega)] at hgo2
 exact az (tn (⟨i+1,((by omega)),hgo2,V,A,rfl,rfl,rfl,rfl⟩))
 rintro Y wC ⟨j,bd,aX,aB,aM,a2,a3,a4,a6⟩
 refine fx 0 a2 (fx 4 a3 (fx 5 a4 (fx 6 a6 (U (fun _ I=>(ag (G) (ag (str s) (ag (ae i) (ag (ae j) (p (iS u9 rfl rfl rfl (by omega)) ?_))))))))))
 refine p (bZ (ps:= [(0,str ((s.take j).drop i))]) (L:= [str ((s.take j).drop i)]) Lx rfl (rfl)) (e (im Bu rfl rfl rfl fun a8 w61 a9 al aL=> ?_))
 have av:Wk w w61:=Md.trans aM al.md
 refine e (ap Bu (aG aB al.md) rfl (by have :=av.size; omega) rfl (aw.cU aL) (rfl) (rfl) (by omega) (by omega) fun a7 bj aY aN bh bb=> ?_)
 have hE62:=Wk.own av (aG aB al.md) aN (Nat.le_refl _)
 have ho62x:=JO aY
 refine aj (((I _ _ (rg rfl (ag (ae j) (p (bF (ae j) rfl) (nl (bn ?_))))))))
 exact tn (⟨_,by omega,j,dn++ [(s.take j).drop i],a7,((by rw [List.length_append,List.length_singleton]; omega)),aX,ho62x,hE62,rfl,rfl,rfl,rfl⟩)
 refine ext (te _ (te _ (be (tn (aJ _ _ (sq (fun _ ab=>sq (fun _ I=> ?_))))))))
 obtain ⟨ah,ai,rfl⟩:=bW V
 have hcr:=E.done (by omega)
 refine rg rfl (ag (.slice ah dn.length ai) (p (ba vq rfl rfl) (p (gt rfl rfl) (au ((I _ _ (cd rfl (fun aQ=> ?_) (fun aQ=> ?_))))))))
 refine U (fun _ J=>(p ak (aj (((J _ _ (rt (tr ?_))))))))
 refine f2 rfl rfl rfl ?_
 have hz:cB s=([],42):=by unfold cB; rw [if_neg (fun h=>h.elim (fun h=>by rw [h] at hg11; exact hg11 rfl) (fun h=>by omega)),if_neg C,hcr]; exact if_pos (by omega)
 exact ⟨⟨.slice none 0 0,by rw [hz]; rfl,by rw [hz]; exact World.ownsRow_nil _ _ _ _⟩,A⟩
 refine az (tn (ab _ _ (U (fun _ J=>(ag (.slice ah dn.length ai) (p (bF (.slice ah dn.length ai) rfl) (p ak (nl ?_))))))))
 refine tn (J _ _ (rt (f2 rfl rfl rfl ?_)))
 have hz:cB s=(dn,0):=by unfold cB; rw [if_neg (fun h=>h.elim (fun h=>by rw [h] at hg11; exact hg11 rfl) (fun h=>by omega)),if_neg C,hcr]; exact if_neg (by omega)
 exact ⟨⟨_,by rw [hz]; rfl,by rw [hz]; exact V⟩,A⟩
theorem KG (ps:List (List UInt8)) (a:Option Addr) (c:Nat) (w:World) (hC:aw w.heap a (ps.map str)) (hn:ps.length≤4096) (G:∀ t∈ps,(t.length=1∨3≤t.length)∧t.length≤1048576):
 aU Tryz.prog 143 (List.toArray [.slice a ps.length c]) w (fun v w'=>v=str (jL ps)∧Wk w w'):=by
 refine enter Tryz.func143 rfl Tryz.ntmps143 rfl ?_
 refine U (fun _ I=>(aj (((I _ _ (sq (fun _ M=>U (fun _ O=> ?_))))))))
 refine ag (.slice a ps.length c) (p (ba vq rfl rfl) (p (bf rfl rfl) (au ((O _ _ (cd rfl (fun hc8=> ?_) (fun hc8=> ?_)))))))
 refine U (fun _ A=>(aj (((A _ _ (rt (tr (f1 rfl rfl ?_))))))))
 exact ⟨by unfold jL; rw [if_pos (List.eq_nil_of_length_eq_zero (by omega))]; rfl,Md.refl _ _⟩
 refine az (tn (M _ _ (U (fun _ A=>(aj (((A _ _ (sq (fun _ V=> ?_))))))))))
 refine U (fun _ Y=>(aj (((Y _ _ (aA (lp (fun E s wI=> ∃ (i:Nat),(i≤ps.length)∧(Wk w wI)∧(((ps.take i).flatMap fun t=>eU (bJ t)).length≤i*300)∧(s 0= .slice a ps.length c)∧(s 3=str ((ps.take i).flatMap fun t=>eU (bJ t)))∧(s 4=ae i)∧(ps.length - i=E)) _ ⟨0,(by omega),(Md.refl _ _),((by simp)),rfl,(by first | rfl | (rw [eh ps i [] (by omega),List.flatMap_append,List.flatMap_singleton]; rfl)),rfl,rfl⟩ ?_)))))))
 rintro E s wI ⟨i,hi,q,hlen,ai,al,am,rfl⟩
 refine fx 0 ai (fx 3 al (fx 4 am (sq (fun _ Z=>U (fun _ aa=>(ag (ae i) (ag (.slice a ps.length c) (p (ba vq rfl rfl) (p (lt rfl rfl) ?_)))))))))
 refine au ((aa _ _ (cd rfl (fun ah=> ?_) (fun ah=> ?_))))
 refine az (tn (Z _ _ (sq (fun _ C=>aA (U (fun _ J=>(ag (.slice a ps.length c) (ag (ae i) ?_))))))))
 refine p (aJ GB rfl rfl (by omega) (aw.ok (hC.wk q) (bp (by omega)))) (p (dB n8 rfl (rfl) (show ∀ j,j < 1→Hb.aE wI.heap (bk a) (fo a+i*1 +j)= [str (ps.getD i [])][j]? from fun j an=>(by cases j with | zero=>exact (I8 (hC.wk q) (by omega)) | succ j=>omega))) (e (cl DP (La (ps.getD i []) _ (G _ (c6 (by omega))).1 (G _ (c6 (by omega))).2) rfl fun ao w19 ac=> ?_)))
 obtain ⟨rfl,ab⟩:=ac
 have hsl:=Bk (bJ (ps.getD i []))
 refine aj (((J _ _ (rg rfl (ag (str ((ps.take i).flatMap fun t=>eU (bJ t))) (p mv (p (cc rfl rfl (by omega)) (p ak ?_))))))))
 refine nl (bn (tn (C _ _ (rg rfl (ag (ae i) (p (bc ((i+1:Nat):Int) rfl rfl (aR (by omega) (by omega))) (p ak (nl ?_))))))))
 exact tn (⟨_,by omega,i+1,(by omega),(Md.trans q ab),((by rw [eh ps i [] (by omega),List.flatMap_append,List.flatMap_singleton,List.length_append]; omega)),rfl,(by first | rfl | (rw [eh ps i [] (by omega),List.flatMap_append,List.flatMap_singleton]; rfl)),rfl,rfl⟩)
 refine ext (te _ (te _ (be (tn (V _ _ (U (fun _ C=>(ag (str ((ps.take i).flatMap fun t=>eU (bJ t))) ?_))))))))
 exact p (bF (str ((ps.take i).flatMap fun t=>eU (bJ t))) rfl) (au ((C _ _ (rt (f1 rfl rfl (⟨by unfold jL; rw [if_neg (fun h=>by rw [h] at hc8; exact hc8 rfl),show ps.take i=ps from List.take_of_length_le (by omega)]; rfl,q⟩))))))
end Go.Hb.po
end
section
set_option maxRecDepth 20000
set_option maxHeartbeats 1000000
namespace Go.Hb.mq
open Go.Hb.di
open Go.Proofs
open Go.Hb.gr
theorem zt {α:Type} {l:List α} {i:Nat} {d:α} (h:i < l.length):l.getD i d∈l:=by
 rw [List.getD_eq_getElem?_getD,List.getElem?_eq_getElem h]; exact List.getElem_mem h
theorem uR (s:List UInt8) (w:World) (hs:s.length≤1048576):
 aU Tryz.prog 40 (List.toArray [str s]) w (fun v w'=>World.ownsRow w' w.heap.size 9 1 (v) ((a7 s)).length (((a7 s)).map str)∧Wk w w'):=by
 refine enter Tryz.func40 rfl Tryz.ntmps40 rfl ?_
 refine U (fun _ aF=>(aj (((aF _ _ ?_)))))
 refine c7 (fun aE aD=>(Wk w aD)∧(aE 0=str (gX s))) ?_ ?_
 refine U (fun _ ab=>(ag (str s) (e (cl DW (Ja s _) rfl fun bu w8 hR8=> ?_))))
 obtain ⟨rfl,ax⟩:=hR8
 refine au ((ab _ _ (cb rfl (fun hc8=> ?_) (fun hc8=> ?_))))
 have hml:=I9 hc8
 exact rg rfl (ag (str s) (p (kJ u9 rfl rfl (by omega)) (aj (((⟨ax,by show str (s.drop 3)=_; rw [L4 hc8]⟩))))))
 exact az (tn (⟨ax,by show str s=_; rw [L2 hc8]⟩))
 rintro aE aD ⟨ar,a5⟩
 refine fx 0 a5 ?_
 have htl:=rJ s
 refine U (fun _ ab=>(aj (((ab _ _ (U (fun _ aH=>(e (je eV fun an w11 hb11 aY aO=> ?_)))))))))
 have a3:World.ownsRow w11 w.heap.size 5 1 (.slice (some ⟨an,0,none⟩) 0 0) (([]:List UInt8)).length (U8 (([]:List UInt8))):=aO _ (by have :=ar.size; omega)
 have aT:Wk w w11:=Md.trans ar aY.md
 refine aj (((aH _ _ (U (fun _ aI=>(aj (((aI _ _ ?_)))))))))
 refine sq (fun _ aJ=>U (fun _ aK=>(aj (((aK _ _ (aA (lp (fun aq C wI=> ∃ (i:Nat) (dn:List (List UInt8)) (a:List UInt8) (ob:Bool) (q V:Value),(i≤(gX s).length)∧(dn++dZ a ((gX s).drop i)=a7 s)∧(ob=decide (a≠[]))∧(a.length≤i)∧(Wk w wI)∧(World.ownsRow wI w.heap.size 9 1 (q) (dn).length ((dn).map str))∧(World.ownsRow wI w.heap.size 5 1 (V) (a).length (U8 (a)))∧(C 0=str (gX s))∧(C 3=q)∧(C 4=V)∧(C 5= .bool ob)∧(C 6= .int .i64 i)∧((gX s).length - i=aq)) _ ⟨0,[],[],false,.slice none 0 0,.slice (some ⟨an,0,none⟩) 0 0,(by omega),rfl,rfl,((by simp)),aT,(World.ownsRow_nil _ _ _ _),a3,rfl,rfl,rfl,rfl,rfl,rfl⟩ ?_))))))))
 rintro aq C wI ⟨i,dn,a,ob,q,V,hi,hd,aC,hcl,M,A,j,a6,a8,a9,ba,bb,rfl⟩
 refine fx 0 a6 (fx 3 a8 (fx 4 a9 (fx 5 ba (fx 6 bb ?_))))
 have hdl:dn.length≤s.length+1:=by have h1:=congrArg List.length hd; have h2:=j6 s; rw [List.length_append] at h1; omega
 have hsz:=M.size
 refine sq (fun _ aL=>U (fun _ aN=>(ag (.int .i64 i) (ag (str (gX s)) (p (bK u9 rfl rfl) (p (lt rfl rfl) (nl ?_)))))))
 refine tn (aN _ _ (cd rfl (fun hc15=> ?_) (fun hc15=> ?_)))
 refine az (tn (aL _ _ (sq (fun _ G=>aA (sq (fun _ Y=>U (fun _ E=>(ag (str (gX s)) ?_))))))))
 refine ag (.int .i64 i) (p (dA u9 rfl rfl (by omega)) (p (bB rfl rfl) (au ((E _ _ (cd rfl (fun al=> ?_) (fun al=> ?_)))))))
 refine U (fun _ Z=>(ag (V) (ag (str (gX s)) (ag (.int .i64 i) (p (dA u9 rfl rfl (by omega)) (e (ec eV rfl rfl fun bf w26 bi O aP=> ?_)))))))
 have hE26:Wk w w26:=Md.trans M O.md
 refine e (ap eV (aG j O.md) rfl (by have :=hE26.size; omega) rfl (aw.cU aP) (rfl) (rfl) (by omega) (by omega) fun bc bv a1 ay hz27 bo=> ?_)
 have hE27:=Wk.own hE26 (aG j O.md) ay (Nat.le_refl _)
 have ho27x:=l9 a1
 have hod27:=bS (aG A O.md) ay (fun k hk=>gV A j (by decide) hk)
 refine aj (((Z _ _ (U (fun _ aa=>(aj (((aa _ _ ?_)))))))))
 refine ext (te _ (be (tn (G _ _ (rg rfl (ag (.int .i64 i) (p (ad rfl rfl (bm (by omega))) (p ak ?_))))))))
 exact au ((⟨_,by omega,i+1,dn,a++ [(gX s).getD i 0],true,q,bc,(by omega),((by rw [drop_cons 0 (by omega),ug (JA al)] at hd; exact hd)),((by simp)),((by rw [List.length_append,List.length_singleton]; omega)),hE27,hod27,ho27x,rfl,rfl,rfl,rfl,rfl,rfl⟩))
 have hb10:=Ir (Decidable.of_not_not al)
 obtain ⟨I,J,rfl⟩:=bW j
 refine az (tn (Y _ _ (U (fun _ Z=>(ag (q) (ag (.slice I a.length J) (e (cl xK (yz a I J _ (aM j).2 (by omega) (aM j).1) rfl fun v30 w30 aZ=> ?_))))))))
 obtain ⟨rfl,ac⟩:=aZ
 refine e (ec dV rfl rfl fun bg w31 bj ah aQ=> ?_)
 have hE31:Wk w w31:=Md.trans (Md.trans M ac) ah.md
 refine e (ap dV (aG (aG A ac) ah.md) rfl (by have :=hE31.size; omega) rfl (aw.cU aQ) (rfl) (rfl) (by omega) (by omega) fun bd bw a2 aW hz32 bp=> ?_)
 have hE32:=Wk.own hE31 (aG (aG A ac) ah.md) aW (Nat.le_refl _)
 have ho32x:=jl a2
 refine aj (((Z _ _ (U (fun _ aa=>(e (je eV fun ao w33 bk aB aR=> ?_)))))))
 have aV:Wk w w33:=Md.trans hE32 aB.md
 have a4:World.ownsRow w33 w.heap.size 5 1 (.slice (some ⟨ao,0,none⟩) 0 0) (([]:List UInt8)).length (U8 (([]:List UInt8))):=aR _ (by have :=hE32.size; omega)
 refine aj (((aa _ _ (rg rfl (p ak (nl (bn (tn (G _ _ ?_)))))))))
 exact rg rfl (ag (.int .i64 i) (p (ad rfl rfl (bm (by omega))) (aj (((⟨_,by omega,i+1,dn++ [gd a],[],false,bd,.slice (some ⟨ao,0,none⟩) 0 0,(by omega),((by rw [drop_cons 0 (by omega),hb10,Af] at hd; rw [List.append_assoc]; exact hd)),rfl,((by simp)),aV,(aG ho32x aB.md),a4,rfl,rfl,rfl,rfl,rfl,rfl⟩))))))
 refine ext (te _ (te _ (be (tn (aJ _ _ (sq (fun _ G=>U (fun _ Y=> ?_))))))))
 refine ag (.bool ob) (au ((Y _ _ (cb rfl (fun am=> ?_) (fun am=> ?_)))))
 have hne:a≠[]:=by have :=aC.symm.trans am; exact of_decide_eq_true this
 obtain ⟨I,J,rfl⟩:=bW j
 refine rg rfl (ag (q) (ag (.slice I a.length J) (e (cl xK (yz a I J _ (aM j).2 (by omega) (aM j).1) rfl fun bs w37 a0=> ?_))))
 obtain ⟨rfl,ae⟩:=a0
 refine e (ec dV rfl rfl fun bh w38 bl ai aS=> ?_)
 have av:Wk w w38:=Md.trans (Md.trans M ae) ai.md
 refine e (ap dV (aG (aG A ae) ai.md) rfl (by have :=av.size; omega) rfl (aw.cU aS) (rfl) (rfl) (by omega) (by omega) fun bt w39 ho39 aX br bq=> ?_)
 have hE39:=Wk.own av (aG (aG A ae) ai.md) aX (Nat.le_refl _)
 have ho39x:=jl ho39
 refine aj (((G _ _ (U (fun _ E=>(p mv (p ak (nl ?_))))))))
 refine tn (E _ _ (rt (f1 rfl rfl ?_)))
 have hd2:dn++ [gd a]=a7 s:=by rw [← hd,show List.drop i (gX s)= [] from List.drop_eq_nil_of_le (by omega),Ae hne]
 exact ⟨by rw [← hd2]; exact ho39x,hE39⟩
 have hne:a= []:=Decidable.of_not_not (of_decide_eq_false (aC.symm.trans am))
 refine az (tn (G _ _ (U (fun _ E=>(ag (q) (p (bF (q) rfl) (au ((E _ _ ?_)))))))))
 refine rt (f1 rfl rfl ?_)
 have hd2:dn=a7 s:=by rw [← hd,show List.drop i (gX s)= [] from List.drop_eq_nil_of_le (by omega),hne,uh,List.append_nil]
 exact ⟨by rw [← hd2]; exact A,M⟩
set_option maxHeartbeats 1000000 in
theorem A4 (s:List UInt8) (w:World) (hs:s.length≤1048576):
 aU Tryz.prog 18 (List.toArray [str s]) w (fun v w'=>(∃ a,v= .tuple #[a,.int .i64 (if 65536 < s.length then 10 else 0)]∧(if 65536 < s.length then a= .slice none 0 0 else ∃ vs,World.ownsRow w' w.heap.size 50 2 a (bh s).length (gN vs)∧eL w' w.heap.size 9 vs (bh s)))∧Wk w w'):=by
 refine enter Tryz.func18 rfl Tryz.ntmps18 rfl ?_
 refine U (fun _ aT=>(p ak (aj (((aT _ _ (sq (fun _ aZ=>sq (fun _ a0=> ?_)))))))))
 refine rg rfl (ag (str s) (p (bK u9 rfl rfl) (p (gt rfl rfl) (au ((a0 _ _ (cd rfl (fun bf=> ?_) (fun bf=> ?_))))))))
 refine U (fun _ ay=>(p ak (aj (((ay _ _ (rt (tr ?_))))))))
 refine f2 rfl rfl rfl ?_
 have hl:65536 < s.length:=by omega
 exact ⟨⟨.slice none 0 0,by show Value.tuple #[.slice none 0 0,.int .i64 10]=_; rw [if_pos hl],by rw [if_pos hl]⟩,Md.refl _ _⟩
 refine az (tn (aZ _ _ (U (fun _ ay=>(aj (((ay _ _ (sq (fun _ a1=> ?_))))))))))
 refine rg rfl (ag (str s) (e (cl sv (uR s _ hs) rfl fun bN w14 a9=> ?_)))
 obtain ⟨aQ,hE14⟩:=a9
 obtain ⟨ao,ar,rfl⟩:=bW aQ
 have hS14:=(aM aQ).2
 have hll:=j6 s
 refine aj (((a1 _ _ (sq (fun _ a2=>U (fun _ a3=>(p ak (nl ?_))))))))
 refine tn (a3 _ _ (aA (lp (fun ah ax wI=> ∃ (i:Nat) (J:Value) (vs:List (Nat×Value)),(i≤(a7 s).length)∧(Wk w14 wI)∧(World.ownsRow wI w14.heap.size 50 2 J (ij 1 ((a7 s).take i)).length (gN vs))∧(eL wI w14.heap.size 9 vs (ij 1 ((a7 s).take i)))∧(ax 4=J)∧(ax 5= .slice ao (a7 s).length ar)∧(ax 6= .int .i64 i)∧((a7 s).length - i=ah)) _ ⟨0,.slice none 0 0,[],(by omega),(Md.refl _ _),(World.ownsRow_nil _ _ _ _),(eL.nil _ _ _),rfl,rfl,rfl,rfl⟩ ?_)))
 rintro ah ax wI ⟨i,J,vs,hi,al,I,hrw,bo,bq,br,rfl⟩
 refine fx 4 bo (fx 5 bq (fx 6 br ?_))
 have hrl:=uS ((a7 s).take i) 1
 rw [List.length_take] at hrl
 have hsz:=al.size
 refine sq (fun _ a4=>sq (fun _ a6=> ?_))
 have bL:((a7 s).getD i []).length≤s.length:=by rcases Nat.lt_or_ge i (a7 s).length with h | h <;> first | exact ue (zt h) | (rw [List.getD_eq_getElem?_getD,List.getElem?_eq_none h]; exact Nat.zero_le _)
 refine rg rfl (ag (.int .i64 i) (ag (.slice ao (a7 s).length ar) (p (ba dx rfl rfl) (p (lt rfl rfl) (au ((a6 _ _ (cd rfl (fun hc18=> ?_) (fun hc18=> ?_)))))))))
 refine az (tn (a4 _ _ (sq (fun _ aa=>aA (U (fun _ aV=>(p ak (nl ?_))))))))
 refine tn (aV _ _ (U (fun _ aW=>(ag (.slice ao (a7 s).length ar) (ag (.int .i64 i) (p (aJ bE rfl rfl (by omega) (aw.ok (hS14.wk al) (bp (by omega)))) (p (ld bz rfl (bu.get (i:=i) (hS14.wk al) (by omega))) (e (cl D9 (Ky ((a7 s).getD i []) _ (by omega)) rfl fun bO w25 bb=> ?_)))))))))
 obtain ⟨aS,hE25⟩:=bb
 obtain ⟨an,aq,rfl⟩:=bW aS
 have hS25:=(aM aS).2
 have ab:Wk w14 w25:=Md.trans al hE25
 have hfl:=oy ((a7 s).getD i []) []
 refine aj (((aW _ _ (sq (fun _ aN=>U (fun _ aX=>(p ak (nl ?_))))))))
 refine tn (aX _ _ (aA (lp (fun ah Z aL=> ∃ (j:Nat) (av:Value),(j≤(bC [] ((a7 s).getD i [])).length)∧(∀ q,q < j→oV ((bC [] ((a7 s).getD i [])).getD q [])=false)∧(Wk w25 aL)∧(World.ownsRow aL w25.heap.size 9 1 (av) (((bC [] ((a7 s).getD i [])).take j)).length ((((bC [] ((a7 s).getD i [])).take j)).map str))∧(Z 4=J)∧(Z 5= .slice ao (a7 s).length ar)∧(Z 6= .int .i64 i)∧(Z 7=av)∧(Z 8= .slice an (bC [] ((a7 s).getD i [])).length aq)∧(Z 9= .int .i64 j)∧((bC [] ((a7 s).getD i [])).length - j=ah)) _ ⟨0,.slice none 0 0,(by omega),((fun q hq=>by omega)),(Md.refl _ _),(World.ownsRow_nil _ _ _ _),rfl,rfl,rfl,rfl,rfl,rfl,rfl⟩ ?_)))
 rintro ah Z aL ⟨j,av,aP,aI,A,O,bs,bt,bv,bw,bx,bA,rfl⟩
 refine fx 4 bs (fx 5 bt (fx 6 bv (fx 7 bw (fx 8 bx (fx 9 bA ?_)))))
 have hkl:((bC [] ((a7 s).getD i [])).take j).length≤j:=by rw [List.length_take]; omega
 have hszJ:=A.size
 refine sq (fun _ aY=>U (fun _ aO=>(ag (.int .i64 j) (ag (.slice an (bC [] ((a7 s).getD i [])).length aq) (p (ba dx rfl rfl) (p (lt rfl rfl) (p mv ?_)))))))
 refine gs (t:=30) rfl (fun bk=> ?_) (fun bk=> ?_)
 refine pg rfl rfl rfl (aC (.slice an (bC [] ((a7 s).getD i [])).length aq) rfl) (pg rfl rfl rfl (aC (.int .i64 j) rfl) (pg rfl rfl rfl (aJ bE rfl rfl (by omega) (aw.ok (hS25.wk A) (bp (by omega)))) (pg rfl rfl rfl (ld bz rfl (bu.get (i:=j) (hS25.wk A) (by omega))) (pg rfl rfl rfl (fD 0 u9 rfl rfl (List.length_pos_iff.2 (tq _ _ _ (zt (by omega))).1)) (pg rfl rfl rfl (bB rfl rfl) (p (bg rfl) (nl ?_)))))))
 refine tn (aO _ _ (cd rfl (fun bi=> ?_) (fun bi=> ?_)))
 refine az (tn (aY _ _ (sq (fun _ ac=>aA (rg rfl (ag (av) (ag (.slice an (bC [] ((a7 s).getD i [])).length aq) (ag (.int .i64 j) ?_))))))))
 refine p (aJ bE rfl rfl (by omega) (aw.ok (hS25.wk A) (bp (by omega)))) (p (ld bz rfl (bu.get (i:=j) (hS25.wk A) (by omega))) (e (ec dV rfl rfl fun bH w45 bI aF a8=> ?_)))
 have hE45:Wk w25 w45:=Md.trans A aF.md
 refine e (ap dV (aG O aF.md) rfl (by have :=hE45.size; omega) rfl (aw.cU a8) (rfl) (rfl) (by omega) (by omega) fun bD w46 bl hM46 bM bJ=> ?_)
 have hE46:=Wk.own hE45 (aG O aF.md) hM46 (Nat.le_refl _)
 have ho46x:=jl bl
 refine p ak (nl (bn (tn (ac _ _ (rg rfl (ag (.int .i64 j) (p (ad rfl rfl (bm (by omega))) (p ak ?_))))))))
 exact au ((⟨_,by omega,j+1,bD,(by omega),((fun q hq=>by rcases Nat.lt_or_ge q j with h | h <;> first | exact aI q h | (rw [show q=j by omega]; exact decide_eq_false (by omega)))),hE46,((by rw [eh _ j [] (by omega)]; exact ho46x)),rfl,rfl,rfl,rfl,rfl,rfl,rfl⟩))
 have am:j5 (bC [] ((a7 s).getD i []))=((bC [] ((a7 s).getD i [])).take j):=qM aP aI (.inr (decide_eq_true (by omega)))
 obtain ⟨E,G,rfl⟩:=bW O
 refine ext (te _ (te _ (be (tn (aN _ _ (U (fun _ ac=>(p (aC (.slice E ((bC [] ((a7 s).getD i [])).take j).length G) rfl) ?_))))))))
 refine p (ba dx rfl rfl) (p (gt rfl rfl) (au ((ac _ _ (cd rfl (fun Y=> ?_) (fun Y=> ?_))))))
 have M:h8 ((a7 s).getD i []) (1 +i)= [(i+1,((bC [] ((a7 s).getD i [])).take j))]:=by unfold h8; rw [am,if_neg (fun h=>by rw [h] at Y; simp at Y),Nat.add_comm]
 refine rg rfl (ag (J) (ag (.int .i64 i) (p (bc ((i+1:Nat):Int) rfl rfl (aR (by omega) (by omega))) (p (aC (.slice E ((bC [] ((a7 s).getD i [])).take j).length G) rfl) (p (bZ (ps:= [(0,ae (i+1)),(1,.slice E ((bC [] ((a7 s).getD i [])).take j).length G)]) (L:= [ae (i+1),.slice E ((bC [] ((a7 s).getD i [])).take j).length G]) BE rfl (rfl)) (e (im rl rfl rfl rfl fun aB w55 bd C aD=> ?_)))))))
 have aE:bG w55.heap aB [ae (i+1),.slice E ((bC [] ((a7 s).getD i [])).take j).length G]:=aD
 have ai:Wk w14 w55:=Md.trans ab (Md.trans A C.md)
 refine e (ap rl (aG (aG (aG I hE25) A) C.md) rfl (by have :=ai.size; omega) rfl (aw.cU aE) (rfl) (rfl) (by omega) (by omega) fun aK w56 aH V hz56 bj=> ?_)
 have hE56:=Wk.own ai (aG (aG (aG I hE25) A) C.md) V (Nat.le_refl _)
 have hrw56:=((((hrw.wk hE25).wk A).wk C.md).md V (eT (aG (aG (aG I hE25) A) C.md) (by decide))).snoc (n:=i+1) (Tg.fY (gi (bS (aG O C.md) V (fun k hk=>gV (aG O C.md) (aG (aG (aG I hE25) A) C.md) (by decide) hk)) (by have :=Md.size ab; omega)))
 refine p ak (nl (bn (tn (aa _ _ (rg rfl (ag (.int .i64 i) (p (ad rfl rfl (bm (by omega))) (p ak ?_))))))))
 exact au ((⟨_,by omega,i+1,aK,vs++ [(i+1,.slice E ((bC [] ((a7 s).getD i [])).take j).length G)],(by omega),hE56,((by rw [eh _ i [] (by omega),jH,show ((a7 s).take i).length=i from by rw [List.length_take]; omega,M,List.length_append,uX]; exact aH)),((by rw [eh _ i [] (by omega),jH,show ((a7 s).take i).length=i from by rw [List.length_take]; omega,M]; exact hrw56)),rfl,rfl,rfl,rfl⟩))
 have M:∀ n,h8 ((a7 s).getD i []) n= []:=fun n=>by unfold h8; rw [am,if_pos (List.length_eq_zero_iff.1 (by omega))]
 refine az (bn (tn (aa _ _ (rg rfl (ag (.int .i64 i) (p (ad rfl rfl (bm (by omega))) (p ak (nl ?_))))))))
 exact tn (⟨_,by omega,i+1,J,vs,(by omega),(Md.trans ab A),((by rw [eh _ i [] (by omega),jH,M,List.append_nil]; exact aG (aG I hE25) A)),((by rw [eh _ i [] (by omega),jH,M,List.append_nil]; exact (hrw.wk hE25).wk A)),rfl,rfl,rfl,rfl⟩)
 have am:j5 (bC [] ((a7 s).getD i []))=((bC [] ((a7 s).getD i [])).take j):=qM aP aI (.inl (by omega))
 obtain ⟨E,G,rfl⟩:=bW O
 refine sk rfl rfl rfl rfl (sk rfl rfl rfl rfl (sk rfl rfl rfl rfl (sk rfl rfl rfl rfl (sk rfl rfl rfl rfl (sk rfl rfl rfl rfl (p (a5 rfl) (nl ?_)))))))
 refine tn (aO _ _ (cf rfl (ext (te _ (te _ (be (tn (aN _ _ (sq (fun _ ac=> ?_))))))))))
 refine rg rfl (p (aC (.slice E ((bC [] ((a7 s).getD i [])).take j).length G) rfl) (p (ba dx rfl rfl) (p (gt rfl rfl) (au ((ac _ _ (cd rfl (fun Y=> ?_) (fun Y=> ?_))))))))
 have M:h8 ((a7 s).getD i []) (1 +i)= [(i+1,((bC [] ((a7 s).getD i [])).take j))]:=by unfold h8; rw [am,if_neg (fun h=>by rw [h] at Y; simp at Y),Nat.add_comm]
 refine rg rfl (ag (J) (ag (.int .i64 i) (p (bc ((i+1:Nat):Int) rfl rfl (aR (by omega) (by omega))) (p (aC (.slice E ((bC [] ((a7 s).getD i [])).take j).length G) rfl) (p (bZ (ps:= [(0,ae (i+1)),(1,.slice E ((bC [] ((a7 s).getD i [])).take j).length G)]) (L:= [ae (i+1),.slice E ((bC [] ((a7 s).getD i [])).take j).length G]) BE rfl (rfl)) (e (im rl rfl rfl rfl fun aB w55 bd C aD=> ?_)))))))
 have aE:bG w55.heap aB [ae (i+1),.slice E ((bC [] ((a7 s).getD i [])).take j).length G]:=aD
 have ai:Wk w14 w55:=Md.trans ab (Md.trans A C.md)
 refine e (ap rl (aG (aG (aG I hE25) A) C.md) rfl (by have :=ai.size; omega) rfl (aw.cU aE) (rfl) (rfl) (by omega) (by omega) fun aK w56 aH V hz56 bj=> ?_)
 have hE56:=Wk.own ai (aG (aG (aG I hE25) A) C.md) V (Nat.le_refl _)
 have hrw56:=((((hrw.wk hE25).wk A).wk C.md).md V (eT (aG (aG (aG I hE25) A) C.md) (by decide))).snoc (n:=i+1) (Tg.fY (gi (bS (aG O C.md) V (fun k hk=>gV (aG O C.md) (aG (aG (aG I hE25) A) C.md) (by decide) hk)) (by have :=Md.size ab; omega)))
 refine p ak (nl (bn (tn (aa _ _ (rg rfl (ag (.int .i64 i) (p (ad rfl rfl (bm (by omega))) (p ak ?_))))))))
 exact au ((⟨_,by omega,i+1,aK,vs++ [(i+1,.slice E ((bC [] ((a7 s).getD i [])).take j).length G)],(by omega),hE56,((by rw [eh _ i [] (by omega),jH,show ((a7 s).take i).length=i from by rw [List.length_take]; omega,M,List.length_append,uX]; exact aH)),((by rw [eh _ i [] (by omega),jH,show ((a7 s).take i).length=i from by rw [List.length_take]; omega,M]; exact hrw56)),rfl,rfl,rfl,rfl⟩))
 have M:∀ n,h8 ((a7 s).getD i []) n= []:=fun n=>by unfold h8; rw [am,if_pos (List.length_eq_zero_iff.1 (by omega))]
 refine az (bn (tn (aa _ _ (rg rfl (ag (.int .i64 i) (p (ad rfl rfl (bm (by omega))) (p ak (nl ?_))))))))
 exact tn (⟨_,by omega,i+1,J,vs,(by omega),(Md.trans ab A),((by rw [eh _ i [] (by omega),jH,M,List.append_nil]; exact aG (aG I hE25) A)),((by rw [eh _ i [] (by omega),jH,M,List.append_nil]; exact (hrw.wk hE25).wk A)),rfl,rfl,rfl,rfl⟩)
 refine ext (te _ (te _ (be (tn (a2 _ _ (U (fun _ aa=>(ag (J) ?_))))))))
 refine p (bF (J) rfl) (aj (((aa _ _ (rt (f2 rfl rfl rfl ?_))))))
 have hl:¬65536 < s.length:=by omega
 rw [show (a7 s).take i=a7 s from List.take_of_length_le (by omega)] at I hrw
 exact ⟨⟨J,by show Value.tuple #[J,.int .i64 0]=_; rw [if_neg hl],by rw [if_neg hl]; exact ⟨vs,gi I hE14.size,hrw.mono hE14.size⟩⟩,Md.trans hE14 al⟩
end Go.Hb.mq
end
section
set_option maxRecDepth 20000
set_option maxHeartbeats 1000000
namespace Go.Hb.m4
open Go.Hb.di
open Go.Proofs
open Go.Hb.km Go.Hb.eX Go.Hb.fH Go.Hb.iV Go.Hb.fP Go.Hb.iG Go.Hb.jP Go.Hb.kQ Go.Hb.m5 Go.Hb.gF Go.Hb.pq Go.Hb.po Go.Hb.mq Go.Hb.gr Go.Hb.fS
theorem o0 {s:Tx} {k:Tx} {i:Nat} (h:s=k) (h1:k∈cO) (h2:cO.idxOf k=i):lr s=(i:Nat):=by subst h; unfold lr; rw [if_pos h1,h2]
theorem Lk {s:Tx} (h:s∉cO):lr s= -1:=if_neg h
def nJ:List Tx:= [eS,e8,fu,gz,dE,db]
theorem B8 {s:Tx} (h:s∈cO):width s=2:=if_pos (.inl h)
theorem Me {s:Tx} (h:s∈nJ):width s=2:=by
 unfold width
 rw [if_pos]
 simpa [nJ] using Or.inr (List.mem_cons.1 h)
theorem B9 {s:Tx} (h:s=dQ∨s=bQ):width s=4:=by
 unfold width
 rw [if_neg,if_pos h]
 rcases h with rfl | rfl <;> decide
theorem Mf {s:Tx} (h:s∉cO) (h1:s∉nJ) (h2:s≠dQ) (h3:s≠bQ):width s=0:=by
 unfold width
 rw [if_neg,if_neg (by simp [h2,h3])]
 intro h4
 rcases h4 with h4 | h4
 · exact h h4
 · exact h1 (by simpa [nJ] using h4)
theorem zx {F:aI} {V:fp} {i:Nat} (hi:i < 5):(j0 F V).toArray[0 +3 +((i:Nat):Int).toNat*1]? =some (bq (F.sp.getD i 0)):=by
 match i,hi with
 | 0,_=>rfl
 | 1,_=>rfl
 | 2,_=>rfl
 | 3,_=>rfl
 | 4,_=>rfl
theorem Aj {x:Nat} {l:List Nat} (h:∀ j,j < l.length→l.getD j 0≠x):x∉l:=fun hm=>by
 obtain ⟨j,a,e⟩:=lh 0 hm
 exact h j a e
theorem GJ {x:Nat} :∀ {cs:List bX} {i:Nat} {c:bX},(∀ j,j < i→(cs.getD j jV).flag≠x)→cs[i]? =some c→c.flag=x→dK cs x=some c:=by
 intro cs
 induction cs with
 | nil=>intro i c _ h; simp at h
 | cons a l ih=>
   intro i c p hi q
   unfold dK
   rw [List.find?_cons]
   cases i with
   | zero=>simp only [List.getElem?_cons_zero,Option.some.injEq] at hi; subst hi; simp [q]
   | succ i=>
     have h0:=p 0 (by omega)
     simp only [List.getD_cons_zero] at h0
     rw [decide_eq_false h0]
     exact ih (i:=i) (fun j s=>by have :=p (j+1) (by omega); simpa using this) (by simpa using hi) q
theorem GL {x:Nat} {cs:List bX} (h:∀ j,j < cs.length→(cs.getD j jV).flag≠x):dK cs x=none:=by
 unfold dK
 rw [List.find?_eq_none]
 intro c hc
 obtain ⟨j,a,e⟩:=lh jV hc
 have :=h j a
 rw [e] at this
 simpa using this
theorem Hg (l:List bX):(lZ l).length=l.length*5:=kD (f:=jz) (m:=5) (fun _=>rfl) _
theorem qE {l:List bX} (h:0 < l.length):lZ l≠[]:=fun h2=>by have :=congrArg List.length h2; rw [Hg] at this; simp at this; omega
theorem oq {l:List bX} {i:Nat} (h:i < l.length):l[i]? =some (l.getD i jV):=by rw [List.getD_eq_getElem?_getD,List.getElem?_eq_getElem h]; rfl
theorem yj {F:aI} {x:Nat} (h:x∈F.sp):dw F x=true :=by unfold dw; rw [decide_eq_true h]; rfl
theorem yl {F:aI} {x:Nat} (h:x∉F.sp):dw F x=(dK F.a3 x).isSome:=by unfold dw; rw [decide_eq_false h]; rfl
theorem qZ {s:Tx} (h:s∈cO∨s=db∨s=dQ∨s=bQ):s∈ig:=by
 rcases h with h | rfl | rfl | rfl
 · have :∀ k∈cO,k∈ig:=by decide
   exact this s h
 all_goals decide
theorem JL {s:Tx} (h:s∉cO) (h1:s≠db) (h2:s≠dQ) (h3:s≠bQ):s∉ig:=by
 intro h4
 have :∀ k∈ig,k∈cO∨k=db∨k=dQ∨k=bQ:=by decide
 rcases this s h4 with h5 | h5 | h5 | h5
 · exact h h5
 · exact h1 h5
 · exact h2 h5
 · exact h3 h5
theorem q4 {seen:List Tx} (h:∀ j,j < seen.length→seen.getD j []∉ig):ordered seen=true :=by
 rw [uB]
 intro k hk i
 obtain ⟨j,a,e⟩:=lh [] i
 exact h j a (e ▸ hk)
theorem tQ (s:Tx) (w:World):
 aU Tryz.prog 78 (List.toArray [str s]) w (fun v w'=>v= .int .i64 (lr s)∧w'=w):=by
 refine enter Tryz.func78 rfl Tryz.ntmps78 rfl ?_
 refine U (fun _ I=>(aj (((I _ _ (sq (fun _ J=>U (fun _ M=> ?_))))))))
 refine ag (str s) (au ((M _ _ (aA (U (fun _ O=>(p (cI rfl rfl) (p ak ?_))))))))
 refine au ((O _ _ (cd rfl (fun G=> ?_) (fun G=> ?_))))
 refine U (fun _ a=>(aj (((a _ _ (rt (br (tr ?_))))))))
 exact f1 rfl rfl (⟨by rw [o0 (k:=gA) (i:=0) G (by decide) (by decide)]; rfl,rfl⟩)
 refine U (fun _ a=>(p (cI rfl rfl) (aj (((a _ _ (cd rfl (fun hc6=> ?_) (fun hc6=> ?_))))))))
 refine U (fun _ j=>(aj (((j _ _ (rt (br (tr ?_))))))))
 exact f1 rfl rfl (⟨by rw [o0 (k:=gJ) (i:=1) hc6 (by decide) (by decide)]; rfl,rfl⟩)
 refine U (fun _ j=>(p (cI rfl rfl) (aj (((j _ _ (cd rfl (fun hc8=> ?_) (fun hc8=> ?_))))))))
 refine U (fun _ q=>(aj (((q _ _ (rt (br (tr ?_))))))))
 exact f1 rfl rfl (⟨by rw [o0 (k:=gS) (i:=2) hc8 (by decide) (by decide)]; rfl,rfl⟩)
 refine U (fun _ q=>(p (cI rfl rfl) (aj (((q _ _ (cd rfl (fun hc10=> ?_) (fun hc10=> ?_))))))))
 refine U (fun _ A=>(aj (((A _ _ (rt (br (tr ?_))))))))
 exact f1 rfl rfl (⟨by rw [o0 (k:=hZ) (i:=3) hc10 (by decide) (by decide)]; rfl,rfl⟩)
 refine U (fun _ A=>(p (cI rfl rfl) (aj (((A _ _ (cd rfl (fun E=> ?_) (fun E=> ?_))))))))
 refine U (fun _ C=>(aj (((C _ _ (rt (br (tr ?_))))))))
 exact f1 rfl rfl (⟨by rw [o0 (k:=iy) (i:=4) E (by decide) (by decide)]; rfl,rfl⟩)
 refine az (bn (tn (J _ _ (U (fun _ C=>(aj (((C _ _ ?_)))))))))
 exact rt (f1 rfl rfl (⟨by rw [Lk (by unfold cO; simp only [List.mem_cons,List.not_mem_nil,or_false,not_or]; exact ⟨G,hc6,hc8,hc10,E⟩)]; rfl,rfl⟩))
theorem HC (s:Tx) (w:World):
 aU Tryz.prog 41 (List.toArray [str s]) w (fun v w'=>v=ae (width s)∧Wk w w'):=by
 refine enter Tryz.func41 rfl Tryz.ntmps41 rfl ?_
 refine U (fun _ Z=>(aj (((Z _ _ (U (fun _ ac=>(ag (str s) ?_))))))))
 refine e (cl sB (tQ s w) rfl fun ap w5 hR5=> ?_)
 obtain ⟨rfl,ao⟩:=hR5
 have hE5:Wk w w5:=by rw [ao]; exact Md.refl _ _
 refine aj (((ac _ _ (sq (fun _ ah=>U (fun _ ai=>(p mv (p (ge rfl rfl) ?_))))))))
 refine au ((ai _ _ (cd rfl (fun E=> ?_) (fun E=> ?_))))
 have hsp:=nK.1 E
 refine U (fun _ q=>(aj (((q _ _ (rt (tr (f1 rfl rfl ?_))))))))
 exact ⟨by rw [B8 hsp]; rfl,hE5⟩
 have hsp:s∉cO:=fun h=>E (nK.2 h)
 refine az (tn (ah _ _ (sq (fun _ q=>U (fun _ ak=>(ag (str s) (au ((ak _ _ ?_)))))))))
 refine aA ?_
 refine c7 (fun G O=> ∃ (b:Bool),(b=decide (s∈nJ))∧(Wk w O)∧(G 8=str s)∧(G 9= .bool b)) ?_ ?_
 refine U (fun _ i=>(p (cI rfl rfl) (aj (((i _ _ (cd rfl (fun a=> ?_) (fun a=> ?_))))))))
 exact az (tn (⟨_,((by rw [a]; decide)),hE5,rfl,rfl⟩))
 refine U (fun _ al=>(p (cI rfl rfl) (aj (((al _ _ (cd rfl (fun a=> ?_) (fun a=> ?_))))))))
 exact az (tn (⟨_,((by rw [a]; decide)),hE5,rfl,rfl⟩))
 refine U (fun _ am=>(p (cI rfl rfl) (aj (((am _ _ (cd rfl (fun a=> ?_) (fun a=> ?_))))))))
 exact az (tn (⟨_,((by rw [a]; decide)),hE5,rfl,rfl⟩))
 refine U (fun _ aa=>(p (cI rfl rfl) (aj (((aa _ _ (cd rfl (fun a=> ?_) (fun a=> ?_))))))))
 exact az (tn (⟨_,((by rw [a]; decide)),hE5,rfl,rfl⟩))
 refine U (fun _ ab=>(p (cI rfl rfl) (aj (((ab _ _ (cd rfl (fun a=> ?_) (fun a=> ?_))))))))
 exact az (tn (⟨_,((by rw [a]; decide)),hE5,rfl,rfl⟩))
 exact rg rfl (p (cI rfl rfl) (aj (((⟨_,((by clear hsp; unfold nJ; simp_all [eS,e8,fu,gz,dE,db])),hE5,rfl,rfl⟩)))))
 rintro G O ⟨b,hb,C,J,M⟩
 refine fx 8 J (fx 9 M (cb rfl (fun a=> ?_) (fun a=> ?_)))
 refine U (fun _ i=>(aj (((i _ _ (rt (br (tr ?_))))))))
 exact f1 rfl rfl (⟨by rw [Me (of_decide_eq_true (hb.symm.trans a))]; rfl,C⟩)
 refine c7 (fun Y V=> ∃ (A:Bool),(A=decide (s=dQ∨s=bQ))∧(Wk w V)∧(Y 16= .bool A)) ?_ ?_
 refine U (fun _ i=>(p (cI rfl rfl) (aj (((i _ _ (cd rfl (fun j=> ?_) (fun j=> ?_))))))))
 exact az (tn (⟨_,((by rw [j]; decide)),C,rfl⟩))
 exact rg rfl (p (cI rfl rfl) (aj (((⟨_,((by clear hb J M; simp [dQ,bQ,j])),C,rfl⟩)))))
 rintro Y V ⟨A,hb2,I,an⟩
 refine fx 16 an (cb rfl (fun j=> ?_) (fun j=> ?_))
 refine U (fun _ i=>(aj (((i _ _ (rt (br (tr ?_))))))))
 exact f1 rfl rfl (⟨by rw [B9 (of_decide_eq_true (hb2.symm.trans j))]; rfl,I⟩)
 refine az (bn (tn (q _ _ (U (fun _ i=>(aj (((i _ _ ?_)))))))))
 refine rt (f1 rfl rfl ?_)
 have h9:=of_decide_eq_false (hb.symm.trans a)
 have h16:=of_decide_eq_false (hb2.symm.trans j)
 exact ⟨by rw [Mf hsp h9 (fun h=>h16 (.inl h)) (fun h=>h16 (.inr h))]; rfl,I⟩
theorem tR (B:Nat) (H:eb) (k ln:Nat) (seen:List Tx) (vh:Value) (key:Tx) (w:World) (a:eJ w B H k ln seen vh) (hsl:seen.length≤70000):
 aU Tryz.prog 42 (List.toArray [aH H.rb,str key]) w (fun v w'=>v= .bool (decide (key∈seen))∧w'=w):=by
 obtain ⟨ai,al,rfl⟩:=bW a.hd
 refine enter Tryz.func42 rfl Tryz.ntmps42 rfl ?_
 refine U (fun _ G=>(aj (((G _ _ (sq (fun _ I=>U (fun _ J=> ?_))))))))
 refine aj (((J _ _ (aA (lp (fun A q wI=> ∃ (i:Nat),(i≤seen.length)∧(∀ j,j < i→seen.getD j []≠key)∧(wI=w)∧(q 0=aH H.rb)∧(q 1=str key)∧(q 5=ae i)∧(seen.length - i=A)) _ ⟨0,(by omega),((fun j C=>by omega)),rfl,rfl,rfl,rfl,rfl⟩ ?_)))))
 rintro A q wI ⟨i,hi,E,Z,ab,ac,ah,rfl⟩
 refine fx 0 ab (fx 1 ac (fx 5 ah ?_))
 subst Z
 refine sq (fun _ M=>U (fun _ O=>(ag (ae i) (ag (aH H.rb) (p (nc rfl) (p (fa k6 rfl) (p (ld gl rfl ((aQ a.cells).trans rfl)) ?_)))))))
 refine p (ba dx rfl rfl) (p (lt rfl rfl) (au ((O _ _ (cd rfl (fun aa=> ?_) (fun aa=> ?_))))))
 refine az (tn (M _ _ (sq (fun _ s=>aA (U (fun _ V=>(ag (aH H.rb) (p (nc rfl) ?_))))))))
 refine p (fa k6 rfl) (p (ld gl rfl ((aQ a.cells).trans rfl)) (ag (ae i) (p (aJ bE rfl rfl (by omega) (aw.ok ((aM a.hd).2) (bp (by omega)))) (p (ld bz rfl (bu.get (i:=i) (aM a.hd).2 (by omega))) (ag (str key) (p (cI rfl rfl) (nl ?_)))))))
 refine tn (V _ _ (cd rfl (fun hc23=> ?_) (fun hc23=> ?_)))
 refine U (fun _ Y=>(aj (((Y _ _ (rt (br (tr ?_))))))))
 exact tr (br (tr (f1 rfl rfl (⟨by rw [decide_eq_true (show key∈seen from hc23 ▸ c6 (by omega))]; rfl,rfl⟩))))
 refine az (bn (tn (s _ _ (rg rfl (ag (ae i) (p (ad rfl rfl (bm (by omega))) (p ak (nl ?_))))))))
 exact tn (⟨_,by omega,i+1,(by omega),((fun j C=>by rcases Nat.lt_or_ge j i with h | h <;> first | exact E j h | (rw [show j=i by omega]; exact hc23))),rfl,rfl,rfl,rfl,rfl⟩)
 refine ext (te _ (te _ (be (tn (I _ _ (U (fun _ s=>(p ak ?_))))))))
 exact au ((s _ _ (rt (f1 rfl rfl (⟨by rw [decide_eq_false (show ¬key∈seen from fun h=>by obtain ⟨j,C,e⟩:=lh [] h; exact E j (by omega) e)]; rfl,rfl⟩)))))
theorem tJ (B B0 fb:Nat) (F:aI) (V:fp) (x:Nat) (w:World) (J:dz w B B0 fb F V) (aG:F.a3.length≤70000):
 aU Tryz.prog 44 (List.toArray [aH fb,bq x]) w (fun v w'=>v= .tuple #[.agg (jz ((dK F.a3 x).getD jV)).toArray,.bool (dK F.a3 x).isSome]∧Wk w w'):=by
 obtain ⟨am,gn,O⟩:=bW J.dp
 refine enter Tryz.func44 rfl Tryz.ntmps44 rfl ?_
 refine U (fun _ Y=>(e (al mW fun an w4 aF A I=> ?_)))
 have hF:=J.wk A.md
 have C:Hb.aE w4.heap fb 11=some (.slice am F.a3.length gn):=by rw [← O]; exact (aQ hF.cells).trans rfl
 have ho11:=hF.dp
 rw [O] at ho11
 refine aj (((Y _ _ (sq (fun _ Z=>U (fun _ aa=>(p ak (nl ?_))))))))
 refine tn (aa _ _ (aA (lp (fun G a wI=> ∃ (i:Nat),(i≤F.a3.length)∧(∀ j,j < i→(F.a3.getD j jV).flag≠x)∧(wI=w4)∧(a 0=aH fb)∧(a 1=bq x)∧(a 4=aH an)∧(a 6=ae i)∧(F.a3.length - i=G)) _ ⟨0,(by omega),((fun j q=>by omega)),rfl,rfl,rfl,rfl,rfl,rfl⟩ ?_)))
 rintro G a wI ⟨i,hi,E,aq,ay,aB,aC,aD,rfl⟩
 refine fx 0 ay (fx 1 aB (fx 4 aC (fx 6 aD ?_)))
 subst aq
 refine sq (fun _ ab=>U (fun _ ac=>(ag (ae i) (ag (aH fb) (p (nc rfl) (p (fa k5 rfl) (p (ld lM rfl (C)) ?_)))))))
 refine p (ba vm rfl rfl) (p (lt rfl rfl) (au ((ac _ _ (cd rfl (fun ax=> ?_) (fun ax=> ?_))))))
 refine az (tn (ab _ _ (sq (fun _ s=>aA (U (fun _ ah=>(ag (aH fb) (p (nc rfl) ?_))))))))
 refine p (fa k5 rfl) (p (ld lM rfl (C)) (ag (ae i) (p (aJ qi rfl rfl (by omega) (aw.ok ((aM ho11).2) (qE (by omega)))) (p (fa tz rfl) (p (ld bT rfl (eQ (f:=jz) (m:=5) (fun _=>rfl) (aM ho11).2 (oq (by omega :i < F.a3.length)) 0 (by decide))) (ag (bq x) (p (bf rfl rfl) ?_)))))))
 refine au ((ah _ _ (cd rfl (fun M=> ?_) (fun M=> ?_))))
 refine U (fun _ ai=>(ag (aH fb) (p (nc rfl) (p (fa k5 rfl) (p (ld lM rfl (C)) (ag (ae i) (p (aJ qi rfl rfl (by omega) (aw.ok ((aM ho11).2) (qE (by omega)))) ?_)))))))
 refine p (dB m6 rfl (rfl) (eQ (f:=jz) (m:=5) (fun _=>rfl) (aM ho11).2 (oq (by omega :i < F.a3.length)))) (e (bY lU rfl rfl rfl rfl (I) (by simp) fun aK ar ao=>aj (((ai _ _ (rt (br (tr ?_))))))))
 exact tr (br (tr (dP rfl (c9 (cs:=jz (F.a3.getD i jV)) rfl m6 rfl (fun j q=>ao.c8 j)) dF (⟨by rw [GJ E (oq (by omega)) (by omega)]; rfl,A.md.trans' ar (fun k hk h=>by omega)⟩))))
 refine az (bn (tn (s _ _ (rg rfl (ag (ae i) (p (ad rfl rfl (bm (by omega))) (p ak (nl ?_))))))))
 exact tn (⟨_,by omega,i+1,(by omega),((fun j q=>by rcases Nat.lt_or_ge j i with h | h <;> first | exact E j h | (rw [show j=i by omega]; exact fun h2=>M (by rw [h2])))),rfl,rfl,rfl,rfl,rfl,rfl⟩)
 refine ext (te _ (te _ (be (tn (Z _ _ (U (fun _ s=>(p (bZ (ps:= []) (L:= [.int .i64 0,.int .i64 0,.bool false,.int .i64 0,.int .i64 0]) BD rfl (rfl)) ?_))))))))
 exact e (bY lU rfl rfl rfl rfl (I) (by simp) fun aL av ap=>aj (((s _ _ (rt (dP rfl (c9 (cs:=jz jV) rfl m6 rfl (fun j q=>ap.c8 j)) dF (⟨by rw [GL (fun j q=>E j (by omega))]; rfl,A.md.trans' av (fun k hk h=>by omega)⟩)))))))
theorem Hh (B B0 fb:Nat) (F:aI) (V:fp) (x:Nat) (w:World) (hF:dz w B B0 fb F V) (am:F.a3.length≤70000):
 aU Tryz.prog 107 (List.toArray [aH fb,bq x]) w (fun v w'=>v= .bool (dw F x)∧Wk w w'):=by
 have hsp5:=hF.ef
 refine enter Tryz.func107 rfl Tryz.ntmps107 rfl ?_
 refine U (fun _ I=>(aj (((I _ _ (sq (fun _ J=>U (fun _ M=> ?_))))))))
 refine aj (((M _ _ (aA (lp (fun A a wI=> ∃ (i:Nat),(i≤5)∧(∀ j,j < i→F.sp.getD j 0≠x)∧(wI=w)∧(a 0=aH fb)∧(a 1=bq x)∧(a 5=ae i)∧(5 - i=A)) _ ⟨0,(by omega),((fun j E=>by omega)),rfl,rfl,rfl,rfl,rfl⟩ ?_)))))
 rintro A a wI ⟨i,hi,G,aa,an,ao,ap,rfl⟩
 refine fx 0 an (fx 1 ao (fx 5 ap ?_))
 subst aa
 refine sq (fun _ O=>U (fun _ Y=>(ag (ae i) (p (lt rfl rfl) (au ((Y _ _ (cd rfl (fun ai=> ?_) (fun ai=> ?_)))))))))
 refine az (tn (O _ _ (sq (fun _ q=>aA (U (fun _ s=>(ag (aH fb) (ag (ae i) ?_))))))))
 refine p (nc rfl) (p (fa qu rfl) (p (iw pL rfl rfl (by omega)) (p (ld bT rfl ((aQ hF.cells).trans (zx (i:=i) (by omega)))) (ag (bq x) (p (bf rfl rfl) (au ((s _ _ ?_))))))))
 refine cd rfl (fun C=> ?_) (fun C=> ?_)
 refine U (fun _ Z=>(aj (((Z _ _ (rt (br (tr ?_))))))))
 exact tr (br (tr (f1 rfl rfl (⟨by rw [yj (show x∈F.sp from by obtain rfl :F.sp.getD i 0=x:=(by omega); exact c6 (by omega))]; rfl,Md.refl _ _⟩))))
 refine az (bn (tn (q _ _ (rg rfl (ag (ae i) (p (ad rfl rfl (bm (by omega))) (p ak (nl ?_))))))))
 exact tn (⟨_,by omega,i+1,(by omega),((fun j E=>by rcases Nat.lt_or_ge j i with h | h <;> first | exact G j h | (rw [show j=i by omega]; exact fun h2=>C (by rw [h2])))),rfl,rfl,rfl,rfl,rfl⟩)
 refine ext (te _ (te _ (be (tn (J _ _ (U (fun _ q=>(ag (aH fb) ?_))))))))
 refine ag (bq x) (e (cl sx (tJ B B0 fb F V x wI hF am) rfl fun av w23 ah=> ?_))
 obtain ⟨rfl,hE23⟩:=ah
 have hz23:=hE23.size
 refine p mv (p (xt rfl rfl) (p (xt rfl rfl) (e (al mW fun aq w6 hb6 ac hB6=>e (bY lU rfl rfl rfl rfl (hB6) (by simp) fun aw ab ar=>aj (((q _ _ ?_))))))))
 refine U (fun _ s=>(p mv (aj (((s _ _ (rt (f1 rfl rfl ?_))))))))
 exact ⟨by rw [yl (Aj (fun j E=>G j (by omega)))]; rfl,(hE23.trans ac.md).trans' ab (fun k hk h=>by omega)⟩
theorem tK (s:Tx) (w:World) (hs:s.length≤1048576):
 aU Tryz.prog 141 (List.toArray [str s]) w (fun v w'=>v=ae (e6 s)∧Wk w w'):=by
 refine enter Tryz.func141 rfl Tryz.ntmps141 rfl ?_
 refine U (fun _ E=>(aj (((E _ _ (U (fun _ G=>(ag (str s) ?_))))))))
 refine e (cl om (oT s w hs) rfl fun M w5 hR5=> ?_)
 obtain ⟨rfl,hE5⟩:=hR5
 refine aj (((G _ _ (sq (fun _ I=>U (fun _ A=>(ag (str s) (p (bK u9 rfl rfl) ?_))))))))
 refine p (bf rfl rfl) (p mv (gs (t:=9) rfl (fun hg9=> ?_) (fun hg9=> ?_)))
 have hnil:=List.eq_nil_of_length_eq_zero (show s.length=0 by omega)
 refine sk rfl rfl rfl rfl (sk rfl rfl rfl rfl (p (bg rfl) (au ((A _ _ (ct rfl (U (fun _ a=> ?_))))))))
 exact aj (((a _ _ (rt (tr (f1 rfl rfl (⟨by rw [qn (.inl hnil)]; rfl,hE5⟩)))))))
 have C:s≠[]:=fun h=>hg9 (by rw [h]; rfl)
 refine pg rfl rfl rfl mv (pg rfl rfl rfl (no rfl) (p (a5 rfl) (au ((A _ _ (cb rfl (fun i=> ?_) (fun i=> ?_)))))))
 refine U (fun _ a=>(aj (((a _ _ (rt (tr (f1 rfl rfl ?_))))))))
 have hb0:ei s=false :=by simpa using i
 exact ⟨by rw [qn (.inr hb0)]; rfl,hE5⟩
 refine az (tn (I _ _ (sq (fun _ a=>U (fun _ J=>(ag (str s) (p (bK u9 rfl rfl) (p (gt rfl rfl) ?_))))))))
 refine au ((J _ _ (cd rfl (fun hc15=> ?_) (fun hc15=> ?_))))
 refine U (fun _ j=>(aj (((j _ _ (rt (tr (f1 rfl rfl ?_))))))))
 have q:ei s=true :=by simpa using i
 exact ⟨by rw [yS C q (by omega)]; rfl,hE5⟩
 refine az (tn (a _ _ (U (fun _ j=>(aj (((j _ _ (rt ?_)))))))))
 refine f1 rfl rfl ?_
 have q:ei s=true :=by simpa using i
 exact ⟨by rw [yT C q (by omega)]; rfl,hE5⟩
theorem tN (s:Tx) (C:Bool) (w:World) (hs:s.length≤1048576):
 aU Tryz.prog 125 (List.toArray [str s,.bool C]) w (fun v w'=>(∃ (a:Tx) (e:Nat),v= .tuple #[str a,ae e]∧((dq C s= .ok a∧e=0)∨(dq C s= .error e∧e≠0)))∧Wk w w'):=by
 have hwl:=mV s
 refine enter Tryz.func125 rfl Tryz.ntmps125 rfl ?_
 refine U (fun _ ab=>(p ak (aj (((ab _ _ (sq (fun _ Z=>sq (fun _ aa=> ?_)))))))))
 refine rg rfl (ag (.bool C) (ag (.bool C) (gb (t:=11) rfl (fun hg11=> ?_) (fun hg11=> ?_))))
 refine pg rfl rfl rfl (aC (str s) rfl) (pg rfl rfl rfl (cI rfl rfl) (p (bg rfl) (au ((aa _ _ (cd rfl (fun Y=> ?_) (fun Y=> ?_)))))))
 refine U (fun _ E=>(p ak (aj (((E _ _ (rt (tr ?_))))))))
 exact f2 rfl rfl rfl (⟨⟨[],0,rfl,.inl ⟨by rw [hg11]; exact AK Y,rfl⟩⟩,Md.refl _ _⟩)
 have j:dq C s=dq false s:=by rw [hg11]; exact uJ Y
 refine az (tn (Z _ _ (U (fun _ E=>(ag (str s) (e (cl pU (ra s w hs) rfl fun ac w17 O=> ?_)))))))
 obtain ⟨rfl,hE17⟩:=O
 refine p mv (p (xt rfl rfl) (p (xt rfl rfl) (p (xt rfl rfl) (p (xt rfl rfl) (p ak (p ak (p ak ?_)))))))
 refine aj (((E _ _ (sq (fun _ G=>U (fun _ I=>(p mv (p (bB rfl rfl) ?_))))))))
 refine au ((I _ _ (cd rfl (fun hc23=> ?_) (fun hc23=> ?_))))
 refine U (fun _ q=>(p mv (p ak (aj (((q _ _ (rt ?_))))))))
 exact tr (f2 rfl rfl rfl (⟨⟨[],_,rfl,.inr ⟨j.trans (uF (by omega)),by omega⟩⟩,hE17⟩))
 refine az (tn (G _ _ (sq (fun _ q=>U (fun _ J=>(p mv (au ((J _ _ ?_)))))))))
 refine cb rfl (fun i=> ?_) (fun i=> ?_)
 refine U (fun _ A=>(p ak (aj (((A _ _ (rt (tr ?_))))))))
 exact f2 rfl rfl rfl (⟨⟨[],114,rfl,.inr ⟨j.trans (uG (by omega) i),by decide⟩⟩,hE17⟩)
 refine az (tn (q _ _ (U (fun _ A=>(p mv (p mv (e (cl sr (tK (aW s).1 w17 (by omega)) rfl fun ah w28 V=> ?_))))))))
 obtain ⟨rfl,M⟩:=V
 refine p ak (aj (((A _ _ (rt (f2 rfl rfl rfl ?_))))))
 refine ⟨⟨(aW s).1,e6 (aW s).1,rfl,?_⟩,hE17.trans M⟩
 by_cases h:e6 (aW s).1=0
 exact .inl ⟨j.trans (uI (by omega) i h),h⟩
 exact .inr ⟨j.trans (uH (by omega) i h),h⟩
 have j:dq C s=dq false s:=by rw [hg11]
 refine sk rfl rfl rfl rfl (sk rfl rfl rfl rfl (p (a5 rfl) (au ((aa _ _ (cf rfl (az (tn (Z _ _ ?_)))))))))
 refine U (fun _ E=>(ag (str s) (e (cl pU (ra s w hs) rfl fun ac w17 O=> ?_))))
 obtain ⟨rfl,hE17⟩:=O
 refine p mv (p (xt rfl rfl) (p (xt rfl rfl) (p (xt rfl rfl) (p (xt rfl rfl) (p ak (p ak (p ak ?_)))))))
 refine aj (((E _ _ (sq (fun _ G=>U (fun _ I=>(p mv (p (bB rfl rfl) ?_))))))))
 refine au ((I _ _ (cd rfl (fun hc23=> ?_) (fun hc23=> ?_))))
 refine U (fun _ q=>(p mv (p ak (aj (((q _ _ (rt ?_))))))))
 exact tr (f2 rfl rfl rfl (⟨⟨[],_,rfl,.inr ⟨j.trans (uF (by omega)),by omega⟩⟩,hE17⟩))
 refine az (tn (G _ _ (sq (fun _ q=>U (fun _ J=>(p mv (au ((J _ _ ?_)))))))))
 refine cb rfl (fun i=> ?_) (fun i=> ?_)
 refine U (fun _ A=>(p ak (aj (((A _ _ (rt (tr ?_))))))))
 exact f2 rfl rfl rfl (⟨⟨[],114,rfl,.inr ⟨j.trans (uG (by omega) i),by decide⟩⟩,hE17⟩)
 refine az (tn (q _ _ (U (fun _ A=>(p mv (p mv (e (cl sr (tK (aW s).1 w17 (by omega)) rfl fun ah w28 V=> ?_))))))))
 obtain ⟨rfl,M⟩:=V
 refine p ak (aj (((A _ _ (rt (f2 rfl rfl rfl ?_))))))
 refine ⟨⟨(aW s).1,e6 (aW s).1,rfl,?_⟩,hE17.trans M⟩
 by_cases h:e6 (aW s).1=0
 exact .inl ⟨j.trans (uI (by omega) i h),h⟩
 exact .inr ⟨j.trans (uH (by omega) i h),h⟩
theorem zu (B fb:Nat) (F:aI) (V:fp) (s:Tx) (w:World) (hF:jR w B 0 fb F V) (hk:F.kind=1∨F.kind=2∨F.kind=3) (ap:F.aliases.length≤70000) (hs:s.length≤1048576):
 aU Tryz.prog 85 (List.toArray [aH fb,str s]) w (fun v w'=>(∃ (a:Value) (e:Nat),v= .tuple #[a,ae e]∧a.oneCell'=true∧((∃ l,e=0∧ed F.kind F.aliases s= .ok l∧Tg w' 0 3 l.length a (l.map bq))∨(e≠0∧ed F.kind F.aliases s= .error e)))∧Wk w w'):=by
 obtain ⟨ab,gH,J⟩:=bW hF.dI
 have ho10:=hF.dI
 rw [J] at ho10
 have hc10:Hb.aE w.heap fb 10=some (.slice ab F.aliases.length gH):=by rw [← J]; exact (aQ hF.cells).trans rfl
 refine enter Tryz.func85 rfl Tryz.ntmps85 rfl ?_
 refine U (fun _ M=>(p ak (aj (((M _ _ (sq (fun _ O=>sq (fun _ Y=> ?_)))))))))
 refine rg rfl (ag (aH fb) (p (nc rfl) (p (fa oB rfl) (p (ld pD rfl (hc10)) (p (ba BQ rfl rfl) (p (bf rfl rfl) (nl ?_)))))))
 refine tn (Y _ _ (cd rfl (fun A=> ?_) (fun A=> ?_)))
 have i:F.aliases= []:=List.eq_nil_of_length_eq_zero (by omega)
 refine U (fun _ q=>(ag (aH fb) (p (nc rfl) (p (fa nq rfl) (p (ld bT rfl ((aQ hF.cells).trans rfl)) (ag (str s) (e (cl xf (A1 F.kind s _ hk hs) rfl fun aq w19 ac=> ?_))))))))
 obtain ⟨⟨ao,rfl,I⟩,hE19⟩:=ac
 refine p (xt rfl rfl) (p (xt rfl rfl) (p ak (aj (((q _ _ (rt (tr ?_))))))))
 refine f2 rfl rfl rfl ?_
 obtain ⟨aa,c0,rfl⟩:=bW I
 refine ⟨⟨_,_,rfl,rfl,?_⟩,hE19⟩
 by_cases h:(cX F.kind s).2=0
 exact .inl ⟨_,h,by rw [qp i]; exact qC h,(Tg.fY I).mono (Nat.zero_le _)⟩
 exact .inr ⟨h,by rw [qp i]; exact qB h⟩
 have i:F.aliases≠[]:=fun h=>by rw [h] at A; exact A rfl
 refine az (tn (O _ _ (U (fun _ q=>(ag (str s) (ag (aH fb) (p (nc rfl) (p (fa oB rfl) ?_))))))))
 refine p (ld pD rfl (hc10)) (p (ba BQ rfl rfl) (e (cl mB (mR s (F.aliases.length:Nat) _ hs (by omega)) rfl fun ar w29 ah=> ?_)))
 obtain ⟨rfl,hE29⟩:=ah
 refine p mv (p (xt rfl rfl) (p (xt rfl rfl) (p ak (aj (((q _ _ (sq (fun _ Z=> ?_)))))))))
 refine U (fun _ E=>(p mv (p (bB rfl rfl) (p mv (gs (t:=34) rfl (fun am=> ?_) (fun am=> ?_))))))
 refine sk rfl rfl rfl rfl (sk rfl rfl rfl rfl (p (bg rfl) (au ((E _ _ (ct rfl (U (fun _ j=> ?_))))))))
 exact p ak (aj (((j _ _ (rt (tr (f2 rfl rfl rfl (⟨⟨.slice none 0 0,13,rfl,rfl,.inr ⟨by decide,yZ i (lk (by omega)).1⟩⟩,hE29⟩))))))))
 refine pg rfl rfl rfl mv (pg rfl rfl rfl (bf rfl rfl) (p (a5 rfl) (au ((E _ _ (cd rfl (fun ai=> ?_) (fun ai=> ?_)))))))
 refine U (fun _ j=>(p ak (aj (((j _ _ (rt (tr ?_))))))))
 refine f2 rfl rfl rfl ?_
 have hnx:=j9 (by omega :(cJ s (F.aliases.length:Nat)).2=0)
 rw [show (cJ s (F.aliases.length:Nat)).1=0 from by omega] at hnx
 exact ⟨⟨.slice none 0 0,13,rfl,rfl,.inr ⟨by decide,y2 i hnx⟩⟩,hE29⟩
 refine az (tn (Z _ _ (sq (fun _ j=> ?_))))
 have hnx:=j9 (by omega :(cJ s (F.aliases.length:Nat)).2=0)
 have hnle:=l7 s (F.aliases.length:Nat) (by omega)
 have an:(cJ s (F.aliases.length:Nat)).1 - 1 < F.aliases.length:=by omega
 obtain ⟨av,C,G⟩:=eY.get (hF.al.wk hE29) an
 refine rg rfl (ag (aH fb) (p (nc rfl) (p (fa oB rfl) (p (ld pD rfl (Wk.aE hE29 hc10)) (p mv (p (cM (((cJ s (F.aliases.length:Nat)).1 - 1:Nat):Int) rfl rfl (aR (by omega) (by omega))) (p (aJ Gy rfl rfl (by omega) (aw.ok ((aM (aG ho10 hE29)).2) (fun h=>by rw [h] at C; cases C))) ?_)))))))
 refine p (ld m8 rfl (aw.gv (aM (aG ho10 hE29)).2 C)) (p ak (aj (((j _ _ (rt (f2 rfl rfl rfl ?_)))))))
 obtain ⟨aa,c0,rfl⟩:=G.slice
 exact ⟨⟨_,0,rfl,rfl,.inl ⟨_,rfl,y1 i hnx (by omega),G⟩⟩,hE29⟩
theorem zw (B:Nat) (H:eb) (F:aI) (V:fp) (k ln:Nat) (seen:List Tx) (vh:Value) (s:Tx) (w:World) (hF:dz w B 0 H.fb F V) (A:eJ w B H k ln seen vh) (hk:F.kind=1∨F.kind=2∨F.kind=3) (aa:F.a3.length≤70000) (hs:s.length≤1048576):
 aU Tryz.prog 79 (List.toArray [aH H.rb,str s]) w (fun v w'=>(∃ x e:Nat,v= .tuple #[bq x,ae e]∧((eF F s= .ok x∧x≠0∧e=0)∨(eF F s= .error e∧e≠0)))∧Wk w w'):=by
 refine enter Tryz.func79 rfl Tryz.ntmps79 rfl ?_
 refine U (fun _ C=>(p ak (aj (((C _ _ (U (fun _ E=> ?_))))))))
 refine ag (aH H.rb) (p (nc rfl) (p (fa iu rfl) (p (ld il rfl ((aQ A.cells).trans rfl)) (p (nc rfl) (p (fa nq rfl) (p (ld bT rfl ((aQ hF.cells).trans rfl)) (ag (str s) ?_)))))))
 refine e (cl De (KE F.kind s w hk hs) rfl fun ab w18 O=> ?_)
 obtain ⟨rfl,a⟩:=O
 refine p mv (p (xt rfl rfl) (p (xt rfl rfl) (p ak (aj (((E _ _ (sq (fun _ G=> ?_)))))))))
 refine U (fun _ I=>(p mv (p (bB rfl rfl) (au ((I _ _ (cd rfl (fun Z=> ?_) (fun Z=> ?_))))))))
 refine U (fun _ i=>(p mv (p ak (aj (((i _ _ (rt ?_))))))))
 exact tr (f2 rfl rfl rfl (⟨⟨0,(eE F.kind s).2,rfl,.inr ⟨zn (by omega),by omega⟩⟩,a⟩))
 refine az (tn (G _ _ (U (fun _ i=>(ag (aH H.rb) (p (nc rfl) (p (fa iu rfl) (p (ld il rfl ((aQ (A.wk a).cells).trans rfl)) ?_))))))))
 refine p mv (e (cl Df (Hh B 0 H.fb F V (eE F.kind s).1 w18 (hF.wk a) aa) rfl fun ac w29 Y=> ?_))
 obtain ⟨rfl,hE29⟩:=Y
 refine aj (((i _ _ (sq (fun _ J=>U (fun _ M=>(p mv (nl ?_))))))))
 refine tn (M _ _ (cb rfl (fun q=> ?_) (fun q=> ?_)))
 refine U (fun _ j=>(p ak (aj (((j _ _ (rt (tr ?_))))))))
 exact f2 rfl rfl rfl (⟨⟨0,115,rfl,.inr ⟨zo (by omega) q,by decide⟩⟩,a.trans hE29⟩)
 refine az (tn (J _ _ (U (fun _ j=>(p mv (p ak (p ak (nl ?_))))))))
 exact tn (j _ _ (rt (f2 rfl rfl rfl (⟨⟨_,0,rfl,.inl ⟨zp (by omega) q,zg (by omega),rfl⟩⟩,a.trans hE29⟩))))
theorem Hy (w1:World) (H:eb) (F:aI) (k ln:Nat) (seen r:List Tx) (ar:Nat) (Y:Option Addr) (Z:Nat) (w:World) (aG:iY w1 w H F k ln seen) (hT:Tg w ar 9 r.length (.slice Y r.length Z) (r.map str)) (hr:r.length=2) (hrl:∀ x∈r,x.length≤70000):
 aU Tryz.prog 80 (List.toArray [aH H.rb,.slice Y r.length Z]) w (dS w1 H seen (gT F seen (H.rows.drop k) ln r)):=by
 obtain ⟨V,vh,hF,a,hB,s,hkl⟩:=aG
 have hTs:=hT.bH
 have hlo:=a.lo
 have hbl:=hB.len
 obtain ⟨aR,aS,rfl⟩:=bW a.hd
 have hsl:=hB.sl
 refine enter Tryz.func80 rfl Tryz.ntmps80 rfl ?_
 refine U (fun _ av=>(aj (((av _ _ (sq (fun _ ax=>U (fun _ ay=> ?_))))))))
 refine aj (((ay _ _ (aA (lp (fun aq ab wI=> ∃ (i:Nat),(i≤seen.length)∧(∀ j,j < i→seen.getD j []∉ig)∧(wI=w)∧(ab 0=aH H.rb)∧(ab 1= .slice Y r.length Z)∧(ab 5=ae i)∧(seen.length - i=aq)) _ ⟨0,(by omega),((fun j M=>by omega)),rfl,rfl,rfl,rfl,rfl⟩ ?_)))))
 rintro aq ab wI ⟨i,hi,O,aE,aL,aN,aO,rfl⟩
 refine fx 0 aL (fx 1 aN (fx 5 aO ?_))
 subst aE
 refine sq (fun _ aB=>U (fun _ aD=>(ag (ae i) (ag (aH H.rb) (p (nc rfl) (p (fa k6 rfl) (p (ld gl rfl ((aQ a.cells).trans rfl)) ?_)))))))
 refine p (ba dx rfl rfl) (p (lt rfl rfl) (au ((aD _ _ (cd rfl (fun aK=> ?_) (fun aK=> ?_))))))
 refine az (tn (aB _ _ (sq (fun _ G=>aA (U (fun _ ai=>(ag (aH H.rb) (p (nc rfl) ?_))))))))
 refine p (fa k6 rfl) (p (ld gl rfl ((aQ a.cells).trans rfl)) (ag (ae i) (p (aJ bE rfl rfl (by omega) (aw.ok ((aM a.hd).2) (bp (by omega)))) (p (ld bz rfl (bu.get (i:=i) (aM a.hd).2 (by omega))) (e (cl sB (tQ (seen.getD i []) wI) rfl fun aT w23 aF=> ?_))))))
 obtain ⟨rfl,aP⟩:=aF
 subst aP
 refine aj (((ai _ _ (U (fun _ E=>(p mv (p (ge rfl rfl) (p mv ?_))))))))
 refine gs (t:=26) rfl (fun an=> ?_) (fun an=> ?_)
 refine sk rfl rfl rfl rfl (sk rfl rfl rfl rfl (sk rfl rfl rfl rfl (sk rfl rfl rfl rfl (sk rfl rfl rfl rfl (sk rfl rfl rfl rfl (sk rfl rfl rfl rfl (sk rfl rfl rfl rfl ?_)))))))
 refine p (bg rfl) (p mv (sk rfl rfl rfl rfl (sk rfl rfl rfl rfl (sk rfl rfl rfl rfl (sk rfl rfl rfl rfl (sk rfl rfl rfl rfl (sk rfl rfl rfl rfl ?_)))))))
 refine sk rfl rfl rfl rfl (sk rfl rfl rfl rfl (p (bg rfl) (p mv (sk rfl rfl rfl rfl (sk rfl rfl rfl rfl (sk rfl rfl rfl rfl (sk rfl rfl rfl rfl ?_)))))))
 refine sk rfl rfl rfl rfl (sk rfl rfl rfl rfl (sk rfl rfl rfl rfl (sk rfl rfl rfl rfl (p (bg rfl) (au ((E _ _ (ct rfl ?_))))))))
 refine U (fun _ q=>(aj (((q _ _ (rt (br (tr ?_))))))))
 exact tr (br (tr (f1 rfl rfl (⟨.inr ⟨ln,113,oG (k:=seen.getD i []) (qZ (.inl (nK.1 an))) (c6 (by omega)),by decide,rfl,a.bM⟩,s⟩))))
 refine pg rfl rfl rfl (aC (aH H.rb) rfl) (pg rfl rfl rfl (nc rfl) (pg rfl rfl rfl (fa k6 rfl) (pg rfl rfl rfl (ld gl rfl ((aQ a.cells).trans rfl)) (pg rfl rfl rfl (aC (ae i) rfl) (pg rfl rfl rfl (aJ bE rfl rfl (by omega) (aw.ok ((aM a.hd).2) (bp (by omega)))) (pg rfl rfl rfl (ld bz rfl (bu.get (i:=i) (aM a.hd).2 (by omega))) (pg rfl rfl rfl (cI rfl rfl) ?_)))))))
 refine p (a5 rfl) (p mv (gs (t:=36) rfl (fun ao=> ?_) (fun ao=> ?_)))
 refine sk rfl rfl rfl rfl (sk rfl rfl rfl rfl (sk rfl rfl rfl rfl (sk rfl rfl rfl rfl (sk rfl rfl rfl rfl (sk rfl rfl rfl rfl (sk rfl rfl rfl rfl (sk rfl rfl rfl rfl ?_)))))))
 refine p (bg rfl) (p mv (sk rfl rfl rfl rfl (sk rfl rfl rfl rfl (sk rfl rfl rfl rfl (sk rfl rfl rfl rfl (sk rfl rfl rfl rfl (sk rfl rfl rfl rfl ?_)))))))
 refine sk rfl rfl rfl rfl (sk rfl rfl rfl rfl (p (bg rfl) (au ((E _ _ (ct rfl (U (fun _ q=> ?_))))))))
 refine aj (((q _ _ (rt (br (tr (tr (br ?_))))))))
 exact tr (f1 rfl rfl (⟨.inr ⟨ln,113,oG (k:=seen.getD i []) (qZ (.inr (.inl ao))) (c6 (by omega)),by decide,rfl,a.bM⟩,s⟩))
 refine pg rfl rfl rfl (aC (aH H.rb) rfl) (pg rfl rfl rfl (nc rfl) (pg rfl rfl rfl (fa k6 rfl) (pg rfl rfl rfl (ld gl rfl ((aQ a.cells).trans rfl)) (pg rfl rfl rfl (aC (ae i) rfl) (pg rfl rfl rfl (aJ bE rfl rfl (by omega) (aw.ok ((aM a.hd).2) (bp (by omega)))) (pg rfl rfl rfl (ld bz rfl (bu.get (i:=i) (aM a.hd).2 (by omega))) (pg rfl rfl rfl (cI rfl rfl) ?_)))))))
 refine p (a5 rfl) (p mv (gs (t:=46) rfl (fun ap=> ?_) (fun ap=> ?_)))
 refine sk rfl rfl rfl rfl (sk rfl rfl rfl rfl (sk rfl rfl rfl rfl (sk rfl rfl rfl rfl (sk rfl rfl rfl rfl (sk rfl rfl rfl rfl (sk rfl rfl rfl rfl (sk rfl rfl rfl rfl ?_)))))))
 refine p (bg rfl) (au ((E _ _ (ct rfl (U (fun _ q=>(p ak (nl ?_))))))))
 refine tn (q _ _ (rt (br (tr (tr (br (tr (f1 rfl rfl ?_))))))))
 exact ⟨.inr ⟨ln,113,oG (k:=seen.getD i []) (qZ (.inr (.inr (.inl ap)))) (c6 (by omega)),by decide,rfl,a.bM⟩,s⟩
 refine pg rfl rfl rfl (aC (aH H.rb) rfl) (pg rfl rfl rfl (nc rfl) (pg rfl rfl rfl (fa k6 rfl) (pg rfl rfl rfl (ld gl rfl ((aQ a.cells).trans rfl)) (pg rfl rfl rfl (aC (ae i) rfl) (pg rfl rfl rfl (aJ bE rfl rfl (by omega) (aw.ok ((aM a.hd).2) (bp (by omega)))) (pg rfl rfl rfl (ld bz rfl (bu.get (i:=i) (aM a.hd).2 (by omega))) (pg rfl rfl rfl (cI rfl rfl) ?_)))))))
 refine p (a5 rfl) (au ((E _ _ (cd rfl (fun al=> ?_) (fun al=> ?_)))))
 refine U (fun _ q=>(aj (((q _ _ (rt (br (tr ?_))))))))
 exact tr (br (tr (f1 rfl rfl (⟨.inr ⟨ln,113,oG (k:=seen.getD i []) (qZ (.inr (.inr (.inr al)))) (c6 (by omega)),by decide,rfl,a.bM⟩,s⟩))))
 refine az (bn (tn (G _ _ (rg rfl (ag (ae i) (p (ad rfl rfl (bm (by omega))) (p ak (nl ?_))))))))
 exact tn (⟨_,by omega,i+1,(by omega),((fun j M=>by rcases Nat.lt_or_ge j i with h | h <;> first | exact O j h | (rw [show j=i by omega]; exact JL (fun h=>an (nK.2 h)) ao ap al))),rfl,rfl,rfl,rfl,rfl⟩)
 refine ext (te _ (te _ (be (tn (ax _ _ (sq (fun _ G=>U (fun _ ai=> ?_))))))))
 refine ag (.slice Y r.length Z) (p (aJ bE rfl rfl (by omega) (aw.ok (hTs.2) (bp (by omega)))) (p (ld bz rfl (bu.get (i:=1) hTs.2 (by omega))) (au ((ai _ _ (aA (U (fun _ E=> ?_))))))))
 refine p (cI rfl rfl) (aj (((E _ _ (cd rfl (fun J=> ?_) (fun J=> ?_))))))
 refine rg rfl (ag (aH H.rb) (p (nc rfl) (p (fa iu rfl) (p (ld il rfl ((aQ a.cells).trans rfl)) (p (nc rfl) (p (fa nq rfl) (e (cj fV rfl rfl (v:=ae 1) rfl hF.cells (by show _ < 13; omega) fun w9 hM9 I=> ?_))))))))
 refine nl (bn (tn (G _ _ (U (fun _ q=>(aj (((q _ _ ?_)))))))))
 refine rt (f1 rfl rfl ?_)
 have C:ordered seen=true :=q4 (fun j M=>O j (by omega))
 have hk:fX (r.getD 1 [])=1:=by unfold fX; rw [if_pos (show r.getD 1 []=mM from J)]
 have hF2:=hF.put (F':= {F with kind:=1}) hM9 I rfl rfl rfl rfl hF.ef
 have A:Wk w1 w9:=s.trans' hM9 (fun k hk h=>by have :=hF.lo; omega)
 exact ⟨.inl ⟨_,k,ln,(qN C (by omega)).trans (by rw [hk]),rfl,⟨V,_,hF2,a.fb hF hM9,⟨hB.len,hB.sl,hB.row,(by show 1=1∨1=2∨1=3; decide)⟩,A,hkl⟩⟩,A⟩
 refine U (fun _ q=>(p (cI rfl rfl) (aj (((q _ _ (cd rfl (fun aa=> ?_) (fun aa=> ?_))))))))
 refine rg rfl (ag (aH H.rb) (p (nc rfl) (p (fa iu rfl) (p (ld il rfl ((aQ a.cells).trans rfl)) (p (nc rfl) (p (fa nq rfl) (e (cj fV rfl rfl (v:=ae 2) rfl hF.cells (by show _ < 13; omega) fun w9 hM9 I=> ?_))))))))
 refine nl (bn (tn (G _ _ (U (fun _ ac=>(aj (((ac _ _ ?_)))))))))
 refine rt (f1 rfl rfl ?_)
 have C:ordered seen=true :=q4 (fun j M=>O j (by omega))
 have hk:fX (r.getD 1 [])=2:=by unfold fX; rw [if_neg (show ¬r.getD 1 []=mM from J),if_pos (show r.getD 1 []=nB from aa)]
 have hF2:=hF.put (F':= {F with kind:=2}) hM9 I rfl rfl rfl rfl hF.ef
 have A:Wk w1 w9:=s.trans' hM9 (fun k hk h=>by have :=hF.lo; omega)
 exact ⟨.inl ⟨_,k,ln,(qN C (by omega)).trans (by rw [hk]),rfl,⟨V,_,hF2,a.fb hF hM9,⟨hB.len,hB.sl,hB.row,(by show 2=1∨2=2∨2=3; decide)⟩,A,hkl⟩⟩,A⟩
 refine U (fun _ ac=>(p (cI rfl rfl) (aj (((ac _ _ (cd rfl (fun am=> ?_) (fun am=> ?_))))))))
 refine rg rfl (ag (aH H.rb) (p (nc rfl) (p (fa iu rfl) (p (ld il rfl ((aQ a.cells).trans rfl)) (p (nc rfl) (p (fa nq rfl) (e (cj fV rfl rfl (v:=ae 3) rfl hF.cells (by show _ < 13; omega) fun w9 hM9 I=> ?_))))))))
 refine nl (bn (tn (G _ _ (U (fun _ ah=>(aj (((ah _ _ ?_)))))))))
 refine rt (f1 rfl rfl ?_)
 have C:ordered seen=true :=q4 (fun j M=>O j (by omega))
 have hk:fX (r.getD 1 [])=3:=by unfold fX; rw [if_neg (show ¬r.getD 1 []=mM from J),if_neg (show ¬r.getD 1 []=nB from aa),if_pos (show r.getD 1 []=oH from am)]
 have hF2:=hF.put (F':= {F with kind:=3}) hM9 I rfl rfl rfl rfl hF.ef
 have A:Wk w1 w9:=s.trans' hM9 (fun k hk h=>by have :=hF.lo; omega)
 exact ⟨.inl ⟨_,k,ln,(qN C (by omega)).trans (by rw [hk]),rfl,⟨V,_,hF2,a.fb hF hM9,⟨hB.len,hB.sl,hB.row,(by show 3=1∨3=2∨3=3; decide)⟩,A,hkl⟩⟩,A⟩
 refine U (fun _ ah=>(aj (((ah _ _ (rt (br (tr ?_))))))))
 refine f1 rfl rfl ?_
 have C:ordered seen=true :=q4 (fun j M=>O j (by omega))
 exact ⟨.inr ⟨ln,114,z3 C (by unfold fX; rw [if_neg (show ¬r.getD 1 []=mM from J),if_neg (show ¬r.getD 1 []=nB from aa),if_neg (show ¬r.getD 1 []=oH from am)]),by decide,rfl,a.bM⟩,s⟩
end Go.Hb.m4
end
section
set_option maxRecDepth 20000
set_option maxHeartbeats 1000000
namespace Go.Hb.rS
open Go.Hb.di
open Go.Proofs
open Go.Hb.km Go.Hb.m4 Go.Hb.eX Go.Hb.fH Go.Hb.iV Go.Hb.fP Go.Hb.iG Go.Hb.jP Go.Hb.kQ Go.Hb.gY Go.Hb.m5 Go.Hb.gF Go.Hb.pq Go.Hb.kS Go.Hb.lH Go.Hb.po Go.Hb.mq Go.Hb.gr Go.Hb.fS
theorem KL {kind ln:Nat} {al:List (List Nat)} {c:bX} {r:List Tx} {e:Nat} (h:r.length=4∨r.length=5) (h1:dq true (r.getD 2 [])= .error e):eC kind al c ln r= .error e:=by rw [jn h,h1]
theorem A6 {kind ln:Nat} {al:List (List Nat)} {c:bX} {r:List Tx} {e:Nat} {st:Tx} (h:r.length=4∨r.length=5) (h1:dq true (r.getD 2 [])= .ok st) (h2:gQ (aW (r.getD 3 []))= .error e):eC kind al c ln r= .error e:=by rw [jn h,h1]; simp only; rw [h2]
theorem A7 {kind ln:Nat} {al:List (List Nat)} {c:bX} {r:List Tx} {e:Nat} {st ad:Tx} (h:r.length=4∨r.length=5) (h1:dq true (r.getD 2 [])= .ok st) (h2:gQ (aW (r.getD 3 []))= .ok ad) (h3:ic kind al c.kind (aW (r.getD 3 []))= .error e):eC kind al c ln r= .error e:=by rw [jn h,h1]; simp only; rw [h2]; simp only; rw [h3]
theorem A8 {kind ln:Nat} {al:List (List Nat)} {c:bX} {r:List Tx} {e:Nat} {st ad:Tx} {nx:List Nat} (h:r.length=4∨r.length=5) (h1:dq true (r.getD 2 [])= .ok st) (h2:gQ (aW (r.getD 3 []))= .ok ad) (h3:ic kind al c.kind (aW (r.getD 3 []))= .ok nx) (h4:iq r= .error e):eC kind al c ln r= .error e:=by rw [jn h,h1]; simp only; rw [h2]; simp only; rw [h3]; simp only; rw [h4]
theorem KM {kind ln:Nat} {al:List (List Nat)} {c:bX} {r:List Tx} {st ad cd:Tx} {nx:List Nat} (h:r.length=4∨r.length=5) (h1:dq true (r.getD 2 [])= .ok st) (h2:gQ (aW (r.getD 3 []))= .ok ad) (h3:ic kind al c.kind (aW (r.getD 3 []))= .ok nx) (h4:iq r= .ok cd):eC kind al c ln r= .ok ⟨c.kind,c.flag,c.dX,st,ad,cd,nx,ln⟩:=by rw [jn h,h1]; simp only; rw [h2]; simp only; rw [h3]; simp only; rw [h4]
def ja (xb:Nat) (F:aI) (c:bX) (ln:Nat) (r:List Tx) (w:World) (v:Value) (w':World):Prop :=Md (fun k=>k=xb) w w'∧∃ L:List Value,L.length=8∧L.all Value.oneCell'=true∧w'.heap[xb]? =some (.cells L.toArray 127 (0,0))∧((∃ q vn,eC F.kind F.aliases c ln r= .ok q∧v= .int .i64 (0:Nat)∧L=lf (q,vn)∧Tg w' 0 3 q.next.length vn (q.next.map bq))∨(∃ e:Nat,eC F.kind F.aliases c ln r= .error e∧e≠0∧v= .int .i64 (e:Nat)))
section
variable {xb ln:Nat} {F:aI} {c:bX} {r:List Tx} {w w':World} {st ad cd:Tx} {vn:Value}
theorem ja.no {e:Nat} (hm:Md (fun k=>k=xb) w w') (a:w'.heap[xb]? =some (.cells [.int .i64 (c.kind:Nat),bq c.flag,.bool c.dX,str st,str ad,str cd,vn,.int .i64 (ln:Nat)].toArray 127 (0,0))) (hv:vn.oneCell'=true) (h:eC F.kind F.aliases c ln r= .error e) (he:e≠0):ja xb F c ln r w (.int .i64 (e:Nat)) w':=
 ⟨hm,_,rfl,by simp only [List.all_cons,hv]; rfl,a,.inr ⟨e,h,he,rfl⟩⟩
theorem ja.ok {nx:List Nat} (hm:Md (fun k=>k=xb) w w') (a:w'.heap[xb]? =some (.cells [.int .i64 (c.kind:Nat),bq c.flag,.bool c.dX,str st,str ad,str cd,vn,.int .i64 (ln:Nat)].toArray 127 (0,0))) (hv:vn.oneCell'=true) (hT:Tg w' 0 3 nx.length vn (nx.map bq)) (h:eC F.kind F.aliases c ln r= .ok ⟨c.kind,c.flag,c.dX,st,ad,cd,nx,ln⟩):ja xb F c ln r w (.int .i64 (0:Nat)) w':=
 ⟨hm,_,rfl,by simp only [List.all_cons,hv]; rfl,a,.inl ⟨_,vn,h,rfl,rfl,hT⟩⟩
end
theorem Fp {s t:Tx} (h:t∈(cB s).1) (hs:s.length≤1048576):(t.length=1∨3≤t.length)∧t.length≤1048576:=by
 have :=Fo.1 t h
 exact ⟨this.1,by omega⟩
theorem vk (w:World) (B e:Nat):Tg w B e 0 (.slice none 0 0) []:=⟨none,0,rfl,Nat.le_refl _,.inl rfl⟩
theorem Hw {F F':aI} {ln:Nat} {row:List Tx} (h:fA F ln row= .ok F'):F'.a3=F.a3∧F'.kind=F.kind:=by
 unfold fA at h
 repeat' split at h
 all_goals first
  | (cases h; done)
  | (cases h; exact ⟨rfl,rfl⟩)
theorem zz (B fb xb:Nat) (F:aI) (V:fp) (c:bX) (ln:Nat) (r:List Tx) (aq:Nat) (a:Option Addr) (j:Nat) (w:World) (hF:jR w B 0 fb F V) (hk:F.kind=1∨F.kind=2∨F.kind=3) (bU:F.aliases.length≤70000) (cm:w.heap[xb]? =some (.cells [ae (c.kind),bq c.flag,.bool c.dX,str [],str [],str [],.slice none 0 0,ae ln].toArray 127 (0,0))) (hT:Tg w aq 9 r.length (.slice a r.length j) (r.map str)) (hr:r.length=4∨r.length=5) (hrl:∀ x∈r,x.length≤70000):
 aU Tryz.prog 126 (List.toArray [aH fb,aH xb,.slice a r.length j]) w (ja xb F c ln r w):=by
 have hTs:=hT.bH
 have cv:(r.getD 2 []).length≤70000:=hrl _ (c6 (by omega))
 have cw:(r.getD 3 []).length≤70000:=hrl _ (c6 (by omega))
 have hwl:=mV (r.getD 3 [])
 refine enter Tryz.func126 rfl Tryz.ntmps126 rfl ?_
 refine U (fun _ a9=>(aj (((a9 _ _ (U (fun _ bh=>(ag (.slice a r.length j) ?_))))))))
 refine p (aJ bE rfl rfl (by omega) (aw.ok (hTs.2) (bp (by omega)))) (p (ld bz rfl (bu.get (i:=2) hTs.2 (by omega))) (e (cl sd (tN (r.getD 2 []) true w (by omega)) rfl fun cy w19 bt=> ?_)))
 obtain ⟨⟨st,e,rfl,a6⟩,hE19⟩:=bt
 have hx1:=Wk.aA hE19 cm
 have hm19:Md (fun k=>k=xb) w w19:=hE19.mono (fun _ _ h=>h.elim)
 refine p mv (p (xt rfl rfl) (p (xt rfl rfl) (p ak (aj (((bh _ _ (sq (fun _ bi=> ?_)))))))))
 refine U (fun _ bj=>(p mv (p (bB rfl rfl) (au ((bj _ _ (cd rfl (fun hc23=> ?_) (fun hc23=> ?_))))))))
 have a4:dq true (r.getD 2 [])= .error e∧e≠0:=by
  rcases a6 with ⟨_,h⟩ | h
  omega
  exact h
 refine U (fun _ ax=>(p mv (aj (((ax _ _ (rt (tr ?_))))))))
 exact f1 rfl rfl (ja.no hm19 hx1 rfl (KL hr a4.1) a4.2)
 obtain ⟨am,rfl⟩:dq true (r.getD 2 [])= .ok st∧e=0:=by
  rcases a6 with h | ⟨_,h⟩
  exact h
  omega
 refine az (tn (bi _ _ (U (fun _ ax=>(ag (aH xb) (p mv (p (nc rfl) (p (fa G0 rfl) ?_))))))))
 refine e (cj iN rfl rfl (v:=str st) rfl hx1 (by show _ < 8; omega) fun w4 aF bs=> ?_)
 have hxE4:=hx1
 have hT4:=(hT.wk hE19).md aF (dM hxE4 (by decide))
 have hF4:=(hF.wk hE19).md aF (TF.eq (L:= [129]) (cV hxE4) (by decide)) (by decide)
 have hm4:=(hm19).trans' aF (fun _ _ h=>h)
 have cp:w4.heap[xb]? =some (.cells [ae (c.kind),bq c.flag,.bool c.dX,str st,str [],str [],.slice none 0 0,ae ln].toArray 127 (0,0)):=bs
 refine au ((ax _ _ (U (fun _ bk=>(ag (.slice a r.length j) (p (aJ bE rfl rfl (by omega) (aw.ok (hT4.bH.2) (bp (by omega)))) (p (ld bz rfl (bu.get (i:=3) hT4.bH.2 (by omega))) (e (cl pU (ra (r.getD 3 []) w4 (by omega)) rfl fun cz w33 bv=> ?_)))))))))
 obtain ⟨rfl,C⟩:=bv
 have hx5:=Wk.aA C cp
 have aK:Md (fun k=>k=xb) w w33:=hm4.trans' C (fun _ _ h=>h.elim)
 refine p mv (p (xt rfl rfl) (p (xt rfl rfl) (p (xt rfl rfl) (p (xt rfl rfl) (p ak (p ak (p ak ?_)))))))
 refine aj (((bk _ _ (sq (fun _ bl=>U (fun _ bm=>(p mv (p (bB rfl rfl) ?_))))))))
 refine au ((bm _ _ (cd rfl (fun bK=> ?_) (fun bK=> ?_))))
 refine U (fun _ q=>(p mv (aj (((q _ _ (rt (tr ?_))))))))
 exact f1 rfl rfl (ja.no aK hx5 rfl (A6 hr am (vQ (by omega))) (by omega))
 have aT:(aW (r.getD 3 [])).2.2.2=0:=by omega
 refine az (tn (bl _ _ ?_))
 refine c7 (fun I wC=> ∃ (s1 A:Tx),(dq true (r.getD 2 [])= .ok s1)∧(gQ (aW (r.getD 3 []))= .ok A)∧(wC.heap[xb]? =some (.cells [ae (c.kind),bq c.flag,.bool c.dX,str s1,str A,str [],.slice none 0 0,ae ln].toArray 127 (0,0)))∧(jR wC B 0 fb F V)∧(Tg wC aq 9 r.length (.slice a r.length j) (r.map str))∧(Md (fun k=>k=xb) w wC)∧(I 0=aH fb)∧(I 1=aH xb)∧(I 2= .slice a r.length j)∧(I 10=str (aW (r.getD 3 [])).2.1)∧(I 11= .bool (aW (r.getD 3 [])).2.2.1)) ?_ ?_
 refine U (fun _ q=>(p mv (p (j8 rfl rfl) (au ((q _ _ (cd rfl (fun ai=> ?_) (fun ai=> ?_))))))))
 refine U (fun _ s=>(p mv (e (cl sr (tK (aW (r.getD 3 [])).1 w33 (by omega)) rfl fun cA w44 bw=> ?_))))
 obtain ⟨rfl,ah⟩:=bw
 have hx6:=Wk.aA ah hx5
 have a0:Md (fun k=>k=xb) w w44:=aK.trans' ah (fun _ _ h=>h.elim)
 refine aj (((s _ _ (sq (fun _ M=>U (fun _ O=>(p mv (p (bB rfl rfl) ?_))))))))
 refine au ((O _ _ (cd rfl (fun bL=> ?_) (fun bL=> ?_))))
 refine U (fun _ ar=>(p mv (aj (((ar _ _ (rt (tr ?_))))))))
 exact tr (f1 rfl rfl (ja.no a0 hx6 rfl (A6 hr am (vR aT ai (by omega))) (by omega)))
 refine az (tn (M _ _ (rg rfl (ag (aH xb) (p mv (p (nc rfl) (p (fa G1 rfl) (e (cj iN rfl rfl (v:=str (aW (r.getD 3 [])).1) rfl hx6 (by show _ < 8; omega) fun w12 aD hB12=> ?_)))))))))
 have hxE12:=hx6
 have hT12:=((hT4.wk C).wk ah).md aD (dM hxE12 (by decide))
 have hF12:=((hF4.wk C).wk ah).md aD (TF.eq (L:= [129]) (cV hxE12) (by decide)) (by decide)
 have hm12:=(a0).trans' aD (fun _ _ h=>h)
 have cn:w12.heap[xb]? =some (.cells [ae (c.kind),bq c.flag,.bool c.dX,str st,str (aW (r.getD 3 [])).1,str [],.slice none 0 0,ae ln].toArray 127 (0,0)):=hB12
 exact au ((⟨st,(aW (r.getD 3 [])).1,am,(vS aT ai (by omega)),cn,hF12,hT12,hm12,rfl,rfl,rfl,rfl,rfl⟩))
 exact az (tn (⟨st,[],am,(vT aT (Classical.not_not.1 ai)),hx5,(hF4.wk C),(hT4.wk C),aK,rfl,rfl,rfl,rfl,rfl⟩))
 rintro I wC ⟨s1,A,aa,Z,an,aB,aY,aL,b1,b2,b5,b3,b4⟩
 refine fx 0 b1 (fx 1 b2 (fx 2 b5 (fx 10 b3 (fx 11 b4 ?_))))
 refine c7 (fun J aV=>((aW (r.getD 3 [])).2.2.1=true→c.kind≠1)∧(aV=wC)∧(J 0=aH fb)∧(J 1=aH xb)∧(J 2= .slice a r.length j)∧(J 10=str (aW (r.getD 3 [])).2.1)∧(J 11= .bool (aW (r.getD 3 [])).2.2.1)) ?_ ?_
 refine U (fun _ q=>(ag (.bool (aW (r.getD 3 [])).2.2.1) (ag (.bool (aW (r.getD 3 [])).2.2.1) (gb (t:=53) rfl (fun aG=> ?_) (fun aG=> ?_)))))
 refine pg rfl rfl rfl (aC (aH xb) rfl) (pg rfl rfl rfl (nc rfl) (pg rfl rfl rfl (fa GZ rfl) (pg rfl rfl rfl (ld bT rfl ((aQ an).trans rfl)) (pg rfl rfl rfl (bf rfl rfl) (p (bg rfl) (au ((q _ _ ?_))))))))
 refine cd rfl (fun bM=> ?_) (fun bM=> ?_)
 refine U (fun _ s=>(aj (((s _ _ (rt (tr (f1 rfl rfl ?_))))))))
 exact ja.no aL an rfl (A7 hr aa Z (An aG (by omega))) (by decide)
 exact az (tn (⟨((fun _=>by omega)),rfl,rfl,rfl,rfl,rfl,rfl⟩))
 refine sk rfl rfl rfl rfl (sk rfl rfl rfl rfl (sk rfl rfl rfl rfl (sk rfl rfl rfl rfl (sk rfl rfl rfl rfl (p (a5 rfl) (au ((q _ _ ?_))))))))
 exact cf rfl (az (tn (⟨((fun h=>absurd (h.symm.trans aG) Bool.noConfusion)),rfl,rfl,rfl,rfl,rfl,rfl⟩)))
 rintro J aV ⟨aZ,ck,b6,b7,ca,b8,b9⟩
 refine fx 0 b6 (fx 1 b7 (fx 2 ca (fx 10 b8 (fx 11 b9 ?_))))
 subst ck
 refine c7 (fun ap G=> ∃ (l:List Nat) (vn:Value),(ic F.kind F.aliases c.kind (aW (r.getD 3 []))= .ok l)∧(G.heap[xb]? =some (.cells [ae (c.kind),bq c.flag,.bool c.dX,str s1,str A,str [],vn,ae ln].toArray 127 (0,0)))∧(vn.oneCell'=true)∧(Tg G 0 3 l.length vn (l.map bq))∧(jR G B 0 fb F V)∧(Tg G aq 9 r.length (.slice a r.length j) (r.map str))∧(Md (fun k=>k=xb) w G)∧(ap 0=aH fb)∧(ap 1=aH xb)∧(ap 2= .slice a r.length j)) ?_ ?_
 refine U (fun _ q=>(ag (.bool (aW (r.getD 3 [])).2.2.1) (au ((q _ _ (cb rfl (fun E=> ?_) (fun E=> ?_)))))))
 refine U (fun _ s=>(ag (aH xb) (ag (aH fb) (ag (str (aW (r.getD 3 [])).2.1) (e (cl xM (zu B fb F V (aW (r.getD 3 [])).2.1 aV aB hk bU (by omega)) rfl fun cC w65 bx=> ?_))))))
 obtain ⟨⟨ab,e65,rfl,aO,hfl⟩,hE65⟩:=bx
 have hx16:=Wk.aA hE65 an
 have bV:Md (fun k=>k=xb) w w65:=aL.trans' hE65 (fun _ _ h=>h.elim)
 refine p mv (p (xt rfl rfl) (p (xt rfl rfl) (p (nc rfl) (p (fa tx rfl) (e (cj ya rfl rfl (v:=ab) aO hx16 (by show _ < 8; omega) fun w16 hM16 bn=> ?_))))))
 have hxE16:=hx16
 have hT16:=(aY.wk hE65).md hM16 (dM hxE16 (by decide))
 have hF16:=(aB.wk hE65).md hM16 (TF.eq (L:= [129]) (cV hxE16) (by decide)) (by decide)
 have hm16:=(bV).trans' hM16 (fun _ _ h=>h)
 have a8:w16.heap[xb]? =some (.cells [ae (c.kind),bq c.flag,.bool c.dX,str s1,str A,str [],ab,ae ln].toArray 127 (0,0)):=bn
 refine aj (((s _ _ (U (fun _ M=>(p mv (p (bB rfl rfl) (nl ?_))))))))
 refine tn (M _ _ (cd rfl (fun bN=> ?_) (fun bN=> ?_)))
 obtain ⟨bR,bS⟩:e65≠0∧ed F.kind F.aliases (aW (r.getD 3 [])).2.1= .error e65:=by
  rcases hfl with ⟨l,h,_⟩ | h
  omega
  exact h
 refine U (fun _ O=>(p mv (aj (((O _ _ (rt (tr ?_))))))))
 exact f1 rfl rfl (ja.no hm16 a8 aO (A7 hr aa Z ((qR E (aZ E)).trans bS)) bR)
 obtain ⟨l,rfl,hfo,bG⟩:∃ l,e65=0∧ed F.kind F.aliases (aW (r.getD 3 [])).2.1= .ok l∧Tg w65 0 3 l.length ab (l.map bq):=by
  rcases hfl with h | ⟨h,_⟩
  exact h
  omega
 exact az (tn (⟨l,ab,((qR E (aZ E)).trans hfo),a8,aO,(bG.md hM16 (dM hx16 (by decide))),hF16,hT16,hm16,rfl,rfl,rfl⟩))
 exact az (tn (⟨[],.slice none 0 0,(Ao E),an,rfl,(vk _ _ _),aB,aY,aL,rfl,rfl,rfl⟩))
 rintro ap G ⟨l,vn,aN,aS,aR,bI,cu,bF,bZ,ce,cg,ch⟩
 refine fx 0 ce (fx 1 cg (fx 2 ch (U (fun _ q=>(ag (aH xb) (p (nc rfl) (p (fa y8 rfl) (e (cj iN rfl rfl (v:=str [46]) rfl aS (by show _ < 8; omega) fun w19 aE bo=> ?_)))))))))
 have hxE19:=aS
 have hT19:=(bF).md aE (dM hxE19 (by decide))
 have hm19:=(bZ).trans' aE (fun _ _ h=>h)
 have a7:w19.heap[xb]? =some (.cells [ae (c.kind),bq c.flag,.bool c.dX,str s1,str A,str [46],vn,ae ln].toArray 127 (0,0)):=bo
 have hTl19:=bI.md aE (dM aS (by decide))
 refine au ((q _ _ ?_))
 refine c7 (fun cs ao=> ∃ (cd:Tx),(iq r= .ok cd)∧(ao.heap[xb]? =some (.cells [ae (c.kind),bq c.flag,.bool c.dX,str s1,str A,str cd,vn,ae ln].toArray 127 (0,0)))∧(Tg ao 0 3 l.length vn (l.map bq))∧(Md (fun k=>k=xb) w ao)) ?_ ?_
 refine U (fun _ s=>(ag (.slice a r.length j) (p (ba dx rfl rfl) (p (bf rfl rfl) (au ((s _ _ (cd rfl (fun bO=> ?_) (fun bO=> ?_)))))))))
 have cx:(r.getD 4 []).length≤70000:=hrl _ (c6 (by omega))
 have aP:r.length=5:=by omega
 refine U (fun _ M=>(ag (.slice a r.length j) (p (aJ bE rfl rfl (by omega) (aw.ok (hT19.bH.2) (bp (by omega)))) (p (ld bz rfl (bu.get (i:=4) hT19.bH.2 (by omega))) (e (cl om (oT (r.getD 4 []) w19 (by omega)) rfl fun cD w82 bA=> ?_))))))
 obtain ⟨rfl,Y⟩:=bA
 have hx82:=Wk.aA Y a7
 have a1:Md (fun k=>k=xb) w w82:=hm19.trans' Y (fun _ _ h=>h.elim)
 refine aj (((M _ _ (sq (fun _ O=>U (fun _ ar=>(p mv (p (no rfl) ?_))))))))
 refine au ((ar _ _ (cb rfl (fun al=> ?_) (fun al=> ?_))))
 refine U (fun _ av=>(aj (((av _ _ (rt (tr (tr ?_))))))))
 exact f1 rfl rfl (ja.no a1 hx82 aR (A8 hr aa Z aN (xX aP (by simpa using al))) (by decide))
 refine az (tn (O _ _ (U (fun _ av=>(ag (.slice a r.length j) (p (aJ bE rfl rfl (by omega) (aw.ok ((hT19.wk Y).bH.2) (bp (by omega)))) (p (ld bz rfl (bu.get (i:=4) (hT19.wk Y).bH.2 (by omega))) (e (cl Dx (Kj (r.getD 4 []) w82 (by omega)) rfl fun cE w89 bC=> ?_)))))))))
 obtain ⟨⟨ct,rfl,a3⟩,hE89⟩:=bC
 obtain ⟨ac,cc,rfl⟩:=bW a3
 have hx89:=Wk.aA hE89 hx82
 have a2:Md (fun k=>k=xb) w w89:=a1.trans' hE89 (fun _ _ h=>h.elim)
 refine p mv (p (xt rfl rfl) (p (xt rfl rfl) (p ak (aj (((av _ _ (sq (fun _ bb=> ?_)))))))))
 refine U (fun _ bc=>(p mv (p (bB rfl rfl) (au ((bc _ _ (cd rfl (fun bP=> ?_) (fun bP=> ?_))))))))
 refine U (fun _ bd=>(p mv (aj (((bd _ _ (rt (tr ?_))))))))
 exact tr (f1 rfl rfl (ja.no a2 hx89 aR (A8 hr aa Z aN (xY aP (by simpa using al) (by omega))) (by omega)))
 refine az (tn (bb _ _ (rg rfl (ag (aH xb) (p mv (e (cl Dy (KG (cB (r.getD 4 [])).1 ac cc w89 (aM a3).2 (by have :=x3 (r.getD 4 []); omega) (fun t ci=>Fp ci (by omega))) rfl fun cF w97 bD=> ?_)))))))
 obtain ⟨rfl,ay⟩:=bD
 have hx97:=Wk.aA ay hx89
 have bY:Md (fun k=>k=xb) w w97:=a2.trans' ay (fun _ _ h=>h.elim)
 refine p (nc rfl) (p (fa y8 rfl) (e (cj iN rfl rfl (v:=str (jL (cB (r.getD 4 [])).1)) rfl hx97 (by show _ < 8; omega) fun cr aX br=> ?_)))
 have co:cr.heap[xb]? =some (.cells [ae (c.kind),bq c.flag,.bool c.dX,str s1,str A,str (jL (cB (r.getD 4 [])).1),vn,ae ln].toArray 127 (0,0)):=br
 have hm27:=bY.trans' aX (fun _ _ h=>h)
 have hTl27:=(((hTl19.wk Y).wk hE89).wk ay).md aX (dM hx97 (by decide))
 exact au ((⟨jL (cB (r.getD 4 [])).1,(xZ aP (by simpa using al) (by omega)),co,hTl27,hm27⟩))
 exact az (tn (⟨[46],(x2 (by omega)),a7,hTl19,hm19⟩))
 rintro cs ao ⟨cd,bQ,cq,bJ,b0⟩
 exact U (fun _ s=>(aj (((s _ _ (rt (f1 rfl rfl (ja.ok b0 cq aR bJ (KM hr aa Z aN bQ)))))))))
theorem Hx (w1:World) (H:eb) (F:aI) (k ln:Nat) (seen r:List Tx) (aW:Nat) (E:Option Addr) (G:Nat) (w:World) (a:iY w1 w H F k ln seen) (hT:Tg w aW 9 r.length (.slice E r.length G) (r.map str)) (cq:r≠[]) (hrl:∀ x∈r,x.length≤70000) (cy:F.bN.length+F.aliases.length+F.a3.length+F.rules.length+(H.rows.drop k).length < 70000) (hcl:r.getD 0 []≠dE→r.getD 0 []≠db→0 < F.a3.length):
 aU Tryz.prog 108 (List.toArray [aH H.rb,.slice E r.length G]) w (fun v w'=>((∃ F',fA F ln r= .ok F'∧v=ae 0∧iY w1 w' H F' k ln seen)∨(∃ e:Nat,fA F ln r= .error e∧e≠0∧v=ae e∧Hb.aE w'.heap H.rb 5=some (ae ln)))∧Wk w1 w'):=by
 obtain ⟨V,vh,hF,I,hB,ac,hkl⟩:=a
 have hTs:=hT.bH
 have hlo:=I.lo
 have hflo:=hF.lo
 have hbl:=hB.len
 have hrl0:=List.length_pos_iff.2 cq
 have hrbl:=(Array.getElem?_eq_some_iff.1 I.cells).1
 obtain ⟨b2,gn,bR⟩:=bW hF.dp
 have ho11:=hF.dp
 rw [bR] at ho11
 have aV:Hb.aE w.heap H.fb 11=some (.slice b2 F.a3.length gn):=by rw [← bR]; exact (aQ hF.cells).trans rfl
 refine enter Tryz.func108 rfl Tryz.ntmps108 rfl ?_
 refine U (fun _ bV=>(aj (((bV _ _ (U (fun _ bX=>(ag (aH H.rb) ?_))))))))
 refine p (nc rfl) (p (fa iu rfl) (p (ld il rfl ((aQ I.cells).trans rfl)) (aj (((bX _ _ (sq (fun _ bY=>sq (fun _ b0=> ?_)))))))))
 refine rg rfl (ag (.slice E r.length G) (p (aJ bE rfl rfl (by omega) (aw.ok (hTs.2) (bp (by omega)))) (p (ld bz rfl (bu.get (i:=0) hTs.2 (by omega))) (au ((b0 _ _ (aA (sq (fun _ b1=> ?_)))))))))
 refine rg rfl (p (cI rfl rfl) (aj (((b1 _ _ (cd rfl (fun bl=> ?_) (fun bl=> ?_)))))))
 have h0:r.getD 0 []=dE:=bl
 refine sq (fun _ aX=>U (fun _ ax=>(ag (.slice E r.length G) (p (ba dx rfl rfl) (p (bB rfl rfl) (au ((ax _ _ ?_))))))))
 refine cd rfl (fun ce=> ?_) (fun ce=> ?_)
 refine U (fun _ ab=>(aj (((ab _ _ (rt (tr (br ?_))))))))
 exact tr (f1 rfl rfl (⟨.inr ⟨111,by unfold fA; rw [if_pos h0,AW (by omega)],by decide,rfl,I.bM⟩,ac⟩))
 have bv:r.length=3:=by omega
 have hl1:=hrl _ (c6 (d:= []) (i:=1) (by omega))
 have hl2:=hrl _ (c6 (d:= []) (i:=2) (by omega))
 refine az (tn (aX _ _ (U (fun _ ab=>(ag (.slice E r.length G) (p (aJ bE rfl rfl (by omega) (aw.ok (hTs.2) (bp (by omega)))) (p (ld bz rfl (bu.get (i:=1) hTs.2 (by omega))) (e (cl sd (tN (r.getD 1 []) false w (by omega)) rfl fun v30 w30 b8=> ?_)))))))))
 obtain ⟨⟨ah,aP,rfl,aB⟩,hE30⟩:=b8
 have hT30:=hT.wk hE30
 refine p mv (p (xt rfl rfl) (p (xt rfl rfl) (p ak (aj (((ab _ _ (sq (fun _ J=> ?_)))))))))
 refine U (fun _ ai=>(p mv (p (bB rfl rfl) (au ((ai _ _ (cd rfl (fun cg=> ?_) (fun cg=> ?_))))))))
 have bO:dq false (r.getD 1 [])= .error aP∧aP≠0:=by
  rcases aB with ⟨_,h⟩ | h
  omega
  exact h
 refine U (fun _ O=>(p mv (aj (((O _ _ (rt (tr ?_))))))))
 exact br (tr (f1 rfl rfl (⟨.inr ⟨aP,by unfold fA; rw [if_pos h0,AX bv bO.1],bO.2,rfl,(I.wk hE30).bM⟩,ac.trans hE30⟩)))
 obtain ⟨bP,rfl⟩:dq false (r.getD 1 [])= .ok ah∧aP=0:=by
  rcases aB with h | ⟨_,h⟩
  exact h
  omega
 refine az (tn (J _ _ (U (fun _ O=>(ag (.slice E r.length G) (p (aJ bE rfl rfl (by omega) (aw.ok (hT30.bH.2) (bp (by omega)))) (p (ld bz rfl (bu.get (i:=2) hT30.bH.2 (by omega))) (e (cl sd (tN (r.getD 2 []) true w30 (by omega)) rfl fun cF w40 b9=> ?_)))))))))
 obtain ⟨⟨av,b4,rfl,hp2⟩,hE40⟩:=b9
 have hE40x:=hE30.trans hE40
 have hF4:=hF.wk hE40x
 refine p mv (p (xt rfl rfl) (p (xt rfl rfl) (p ak (aj (((O _ _ (sq (fun _ aD=> ?_)))))))))
 refine rg rfl (p mv (p mv (p (nc rfl) (p (fa y7 rfl) (p (ld CH rfl ((aQ hF4.cells).trans rfl)) (p mv (p mv ?_)))))))
 refine p (bZ (ps:= [(0,str ah),(1,str av)]) (L:= [str ah,str av]) Lw rfl (rfl)) (e (im Bq rfl rfl rfl fun cv w51 cz b7 b5=> ?_))
 have hE51:=hE40x.trans b7.md
 have hF5:=hF.wk hE51
 have hR5:=I.wk hE51
 have hz51:=hE51.size
 refine e (ap Bq (hF5.o9) rfl (by omega) rfl (aw.cU b5) (rfl) (rfl) (by omega) (by omega) fun bS w52 bJ aS hz52 cB=> ?_)
 have hR6:=hR5.own hF5.o9 aS (by decide)
 have hc6:=aS.aA hF5.cells (cw hF5.o9 hF5.cells (by decide))
 have co:World.ownsRow w52 w1.heap.size 219 2 bS (F.bN++ [(ah,av)]).length (gW (F.bN++ [(ah,av)])):=by rw [show gW (F.bN++ [(ah,av)])=gW F.bN++ [str ah,str av] from by simp [gW],List.length_append]; exact bJ
 have hW6:Wk w1 w52:=(ac.trans hE51).trans' aS (fun k hk h=>by have :=(cG hF5.o9 h).1; omega)
 refine p (nc rfl) (p (fa y7 rfl) (e (cj FG rfl rfl (v:=bS) (dU bJ) hc6 (by show _ < 13; omega) fun w9 hM9 am=> ?_)))
 have hF7:=dz.r6 (x:=(ah,av)) hF5 aS co hM9 am
 have hR7:=hR6.kA hc6 hM9
 have C:Wk w1 w9:=hW6.trans' hM9 (fun k hk h=>by omega)
 refine au ((aD _ _ (U (fun _ aF=>(p mv (aj (((aF _ _ ?_)))))))))
 refine rt (br (tr (f1 rfl rfl ?_)))
 rcases hp2 with ⟨hq,rfl⟩ | ⟨hq,hne⟩
 exact ⟨.inl ⟨_,by unfold fA; rw [if_pos h0,AZ bv bP hq],rfl,⟨_,vh,hF7,hR7,⟨by simp only [List.length_append,List.length_singleton]; omega,hB.sl,hB.row,hB.kd⟩,C,hkl⟩⟩,C⟩
 exact ⟨.inr ⟨b4,by unfold fA; rw [if_pos h0,AY bv bP hq],hne,rfl,hR7.bM⟩,C⟩
 have h0:¬r.getD 0 []=dE:=bl
 refine U (fun _ aX=>(p (cI rfl rfl) (aj (((aX _ _ (cd rfl (fun bm=> ?_) (fun bm=> ?_))))))))
 have h1:r.getD 0 []=db:=bm
 refine sq (fun _ ax=>U (fun _ ab=>(ag (.slice E r.length G) (p (ba dx rfl rfl) (p (bB rfl rfl) (au ((ab _ _ ?_))))))))
 refine cd rfl (fun ch=> ?_) (fun ch=> ?_)
 refine U (fun _ J=>(aj (((J _ _ (rt (tr (br ?_))))))))
 exact tr (f1 rfl rfl (⟨.inr ⟨111,by unfold fA; rw [if_neg h0,if_pos h1,wh (by omega)],by decide,rfl,I.bM⟩,ac⟩))
 have bQ:r.length=2:=by omega
 have hl1:=hrl _ (c6 (d:= []) (i:=1) (by omega))
 refine az (tn (ax _ _ (sq (fun _ J=> ?_))))
 have aa:(fun w'=>Wk w w') w.drew:=(Md.refl _ _).drew
 refine bD (fun w'=>Wk w w') rfl wide aa (aB 0 rfl (fun _ _=>mv) aa (aB 1 rfl (fun _ _=>nc rfl) aa (aB 2 rfl (fun _ _=>fa nq rfl) aa (aB 3 rfl (fun w' a=>ld bT rfl (Wk.aE a ((aQ hF.cells).trans rfl))) aa (bd 4 rfl (.slice E r.length G) aa (aB 5 rfl (fun _ _=>aJ bE rfl rfl (by omega) (aw.ok (aw.wk hTs.2 aa) (bp (by omega)))) aa (aB 6 rfl (fun w' a=>ld bz rfl (Wk.aE a (bu.get (i:=1) hTs.2 (by omega)))) aa ?_)))))))
 refine he 7 rfl (by kernel_rfl) (cl xf (A1 F.kind (r.getD 1 []) w.drew hB.kd (by omega)) rfl fun cH w69 ca=> ?_)
 obtain ⟨⟨cu,rfl,bK⟩,hE69⟩:=ca
 obtain ⟨bF,pT,rfl⟩:=bW bK
 have hE69:=ff hE69
 have hF4:=hF.wk hE69
 have ay:(fun w'=>Wk w w') w69:=Md.mono hE69 (fun _ _ h=>h)
 refine ⟨ay,?_⟩
 refine aB 8 rfl (fun _ _=>mv) ay (aB 9 rfl (fun _ _=>xt rfl rfl) ay (aB 10 rfl (fun _ _=>xt rfl rfl) ay (aB 11 rfl (fun _ _=>ak) ay (aB 12 rfl (fun _ _=>ak) ay (hn (by kernel_rfl) (tn (J _ _ (sq (fun _ ai=> ?_)))))))))
 refine rg rfl (p mv (p mv (p (nc rfl) (p (fa oB rfl) (p (ld pD rfl ((aQ hF4.cells).trans rfl)) (p mv (e (ec Bs rfl rfl fun cx ct cA bI b6=> ?_))))))))
 have hE78:=hE69.trans bI.md
 have hF5:=hF.wk hE78
 have hR5:=I.wk hE78
 have hz78:=hE78.size
 refine e (ap Bs (hF5.dI) rfl (by omega) rfl (aw.cU b6) (rfl) (rfl) (by omega) (by omega) fun bU w79 bL aT hz79 cD=> ?_)
 have hR6:=hR5.own hF5.dI aT (by decide)
 have hc6:=aT.aA hF5.cells (cw hF5.dI hF5.cells (by decide))
 have cb:Tg ct 0 3 (cX F.kind (r.getD 1 [])).1.length (.slice bF (cX F.kind (r.getD 1 [])).1.length pT) ((cX F.kind (r.getD 1 [])).1.map bq):=((Tg.fY bK).mono (Nat.zero_le _)).wk bI.md
 have cp:World.ownsRow w79 w1.heap.size 64 1 bU (F.aliases++ [(cX F.kind (r.getD 1 [])).1]).length (V.sa++ [.slice bF (cX F.kind (r.getD 1 [])).1.length pT]):=by rw [List.length_append]; exact bL
 have hW6:Wk w1 w79:=(ac.trans hE78).trans' aT (fun k hk h=>by have :=(cG hF5.dI h).1; omega)
 refine p (nc rfl) (p (fa oB rfl) (e (cj FH rfl rfl (v:=bU) (dU bL) hc6 (by show _ < 13; omega) fun w9 hM9 am=> ?_)))
 have hF7:=dz.r4 (x:=(cX F.kind (r.getD 1 [])).1) hF5 cb aT cp hM9 am
 have hR7:=hR6.kA hc6 hM9
 have C:Wk w1 w9:=hW6.trans' hM9 (fun k hk h=>by omega)
 refine au ((ai _ _ (U (fun _ O=>(p mv (aj (((O _ _ ?_)))))))))
 refine rt (br (tr (f1 rfl rfl ?_)))
 by_cases h:(cX F.kind (r.getD 1 [])).2=0
 exact ⟨.inl ⟨_,by unfold fA; rw [if_neg h0,if_pos h1,pH bQ,qC h],by rw [h]; rfl,⟨_,vh,hF7,hR7,⟨by simp only [List.length_append,List.length_singleton]; omega,hB.sl,hB.row,hB.kd⟩,C,hkl⟩⟩,C⟩
 exact ⟨.inr ⟨_,by unfold fA; rw [if_neg h0,if_pos h1,pH bQ,qB h],h,rfl,hR7.bM⟩,C⟩
 have h1:¬r.getD 0 []=db:=bm
 have hc0:=hcl h0 h1
 refine az (bn (tn (bY _ _ (sq (fun _ ax=>U (fun _ ab=>(ag (.slice E r.length G) (p (ba dx rfl rfl) ?_))))))))
 refine p (bB rfl rfl) (p mv (gs (t:=86) rfl (fun cm=> ?_) (fun cm=> ?_)))
 refine pg rfl rfl rfl (aC (.slice E r.length G) rfl) (pg rfl rfl rfl (ba dx rfl rfl) (pg rfl rfl rfl (bB rfl rfl) (p (bg rfl) (au ((ab _ _ (cd rfl (fun ci=> ?_) (fun ci=> ?_))))))))
 refine U (fun _ J=>(aj (((J _ _ (rt (tr (f1 rfl rfl ?_))))))))
 exact ⟨.inr ⟨111,by unfold fA; rw [if_neg h0,if_neg h1,uW (by omega) (by omega)],by decide,rfl,I.bM⟩,ac⟩
 have bw:r.length=4∨r.length=5:=by omega
 refine az (tn (ax _ _ (sq (fun _ J=> ?_))))
 have s:(fun w'=>Wk w w') w.drew:=(Md.refl _ _).drew
 refine bD (fun w'=>Wk w w') rfl wide s (aB 0 rfl (fun _ _=>mv) s (aB 1 rfl (fun _ _=>nc rfl) s (aB 2 rfl (fun _ _=>fa k5 rfl) s (aB 3 rfl (fun w' a=>ld lM rfl (Wk.aE a (aV))) s (aB 4 rfl (fun _ _=>mv) s (aB 5 rfl (fun _ _=>nc rfl) s (aB 6 rfl (fun _ _=>fa k5 rfl) s ?_)))))))
 refine aB 7 rfl (fun w' a=>ld lM rfl (Wk.aE a (aV))) s (aB 8 rfl (fun _ _=>ba vm rfl rfl) s (aB 9 rfl (fun _ _=>cM ((F.a3.length - 1:Nat):Int) rfl rfl (aR (by omega) (by omega))) s (aB 10 rfl (fun _ _=>aJ qi rfl rfl (by omega) (aw.ok (aw.wk (aM ho11).2 s) (qE (by omega)))) s (aB 11 rfl (fun w' a=>dB m6 rfl (rfl) (fun j aL=>eQ (f:=jz) (m:=5) (fun _=>rfl) (aw.wk (aM ho11).2 a) (oq (by omega :F.a3.length - 1 < F.a3.length)) j aL)) s (he 12 rfl (by kernel_rfl) (fT mW fun aY w11 hb11 an aZ=> ?_))))))
 have hz11:=an.size
 have hz20:=s.size
 have bf:(fun w'=>Wk w w') w11:=s.trans an.md
 refine ⟨bf,?_⟩
 refine he 13 rfl (by kernel_rfl) (gj lU rfl rfl rfl rfl aZ (by decide) fun w20 a8 a1=> ?_)
 have Z:Wk w w20:=(s.trans an.md).trans' a8 (fun k hk h=>by omega)
 have ar:w20.heap[aY]? =some (.cells (jz (eB F)).toArray 129 (0,0)):=a1
 have bh:(fun w'=>Wk w w') w20:=Z
 refine ⟨bh,?_⟩
 refine hn (by kernel_rfl) (tn (J _ _ (sq (fun _ ai=> ?_))))
 have hS21:(fun w'=>Wk w20 w') w20.drew:=(Md.refl _ _).drew
 refine bD (fun w'=>Wk w20 w') rfl wide hS21 (aB 0 rfl (fun _ _=>fa qv rfl) hS21 (aB 1 rfl (fun w' a=>ld bT rfl (Wk.aE a ((aQ ar).trans rfl))) hS21 (aB 2 rfl (fun _ _=>fa tz rfl) hS21 (aB 3 rfl (fun w' a=>ld bT rfl (Wk.aE a ((aQ ar).trans rfl))) hS21 (aB 4 rfl (fun _ _=>fa za rfl) hS21 (aB 5 rfl (fun w' a=>ld pF rfl (Wk.aE a ((aQ ar).trans rfl))) hS21 (bd 6 rfl (aH H.rb) hS21 ?_)))))))
 refine aB 7 rfl (fun _ _=>nc rfl) hS21 (aB 8 rfl (fun _ _=>fa k8 rfl) hS21 (aB 9 rfl (fun w' a=>ld bT rfl (Wk.aE a ((aQ (I.wk Z).cells).trans rfl))) hS21 (aB 10 rfl (fun _ _=>bZ (ps:= [(0,ae ((eB F).kind)),(1,bq (eB F).flag),(2,.bool (eB F).dX),(7,ae ln)]) (L:= [ae ((eB F).kind),bq (eB F).flag,.bool (eB F).dX,.string ⟨⟨[]⟩⟩,.string ⟨⟨[]⟩⟩,.string ⟨⟨[]⟩⟩,.slice none 0 0,ae ln]) BC rfl (rfl)) hS21 (he 11 rfl (by kernel_rfl) (fT Cf fun al w12 hb12 ao hB12=> ?_)))))
 have hz12:=ao.size
 have bi:(fun w'=>Wk w20 w') w12:=hS21.trans ao.md
 refine ⟨bi,?_⟩
 refine he 12 rfl (by kernel_rfl) (gj x6 rfl rfl rfl rfl hB12 (by decide) fun w21 a9 a2=> ?_)
 have hE21:Wk w20 w21:=(hS21.trans ao.md).trans' a9 (fun k hk h=>by have :=hS21.size; omega)
 have hE21x:=Z.trans hE21
 have bA:w21.heap[al]? =some (.cells [ae ((eB F).kind),bq (eB F).flag,.bool (eB F).dX,str [],str [],str [],.slice none 0 0,ae ln].toArray 127 (0,0)):=a2
 have hs21:=hS21.size
 have hs20:=Z.size
 have bj:(fun w'=>Wk w20 w') w21:=hE21
 refine ⟨bj,?_⟩
 refine hn (by kernel_rfl) (tn (ai _ _ (U (fun _ O=>(p mv (ag (.slice E r.length G) (e (cl xk (zz w1.heap.size H.fb al F V (eB F) ln r aW E G w21 (hF.wk hE21x).r hB.kd (by omega) bA (hT.wk hE21x) bw hrl) rfl fun cs w116 bc=> ?_))))))))
 obtain ⟨bo,L,aG,a4,a7,bx⟩:=bc
 have Y:Wk w w116:=hE21x.trans' bo (fun k hk h=>by omega)
 have hF4:=hF.wk Y
 have hR4:=I.wk Y
 have cn:¬(V.cC.ownBlock=some H.rb):=cw hF4.cQ hR4.cells (by decide)
 have bs:¬(V.cC.ownBlock=some H.fb):=cw hF4.cQ hF4.cells (by decide)
 have hnx:¬(V.cC.ownBlock=some al):=fun h=>by have :=(cG hF.cQ h).2; omega
 refine aj (((O _ _ (sq (fun _ aD=> ?_)))))
 have A:(fun w'=>Md (fun k=>V.cC.ownBlock=some k) w116 w') w116.drew:=(Md.refl _ _).drew
 refine dH (fun w'=>Md (fun k=>V.cC.ownBlock=some k) w116 w') 10 rfl wide A (a6 0 rfl (fun _=>mv) (fun _=>A) (a6 1 rfl (fun _=>mv) (fun _=>A) (a6 2 rfl (fun _=>nc rfl) (fun _=>A) (a6 3 rfl (fun _=>fa jZ rfl) (fun _=>A) (cT 4 rfl (fun w' a=>ld kU rfl (Md.aE a ((aQ hF4.cells).trans rfl) bs)) A (cT 5 rfl (fun w' a=>dB vY rfl (aG) (fun j aL=>bG.c8 ⟨_,Md.aA a a7 hnx⟩ j)) A (fE 6 rfl (by kernel_rfl) (im ri rfl rfl aG fun b3 w123 cc bb a0=> ?_))))))))
 have hE123:=ff bb.md
 have hF5:=hF4.wk hE123
 have hR5:=hR4.wk hE123
 have hz5:=(Y.trans hE123).size
 have aK:(fun w'=>Md (fun k=>V.cC.ownBlock=some k) w116 w') w123:=Md.mono hE123 (fun _ _ h=>h.elim)
 refine ⟨aK,?_⟩
 refine fE 7 rfl (by kernel_rfl) (ap ri (hF5.cQ) rfl (by omega) rfl (aw.cU a0) (by omega) (a4) (by omega) (by omega) fun aO w124 aN M cr ck=> ?_)
 have hR6:=hR5.own hF5.cQ M (by decide)
 have hc6:=M.aA hF5.cells (cw hF5.cQ hF5.cells (by decide))
 have hW6:Wk w1 w124:=(ac.trans (Y.trans hE123)).trans' M (fun k hk h=>by have :=(cG hF5.cQ h).1; omega)
 have aq:(fun w'=>Md (fun k=>V.cC.ownBlock=some k) w116 w') w124:=aK.trans' M (fun _ _ h=>h)
 refine ⟨aq,?_⟩
 refine a6 8 rfl (fun _=>nc rfl) (fun _=>aq) (a6 9 rfl (fun _=>fa jZ rfl) (fun _=>aq) (cE 10 rfl (by kernel_rfl) (by kernel_rfl) (cj x5 rfl rfl (v:=aO) (dU aN) hc6 (by show _ < 13; omega) fun w9 hM9 am=> ?_)))
 have hR7:=hR6.kA hc6 hM9
 have C:Wk w1 w9:=hW6.trans' hM9 (fun k hk h=>by omega)
 refine dG (by kernel_rfl) ?_
 refine tn (aD _ _ (U (fun _ aF=>(p mv (aj (((aF _ _ (rt ?_)))))))))
 refine f1 rfl rfl ?_
 have bC:F.rules.length=V.rn.length:=by have :=hF5.nx.1; rw [List.length_map] at this; exact this.symm
 rcases bx with ⟨q,vn,hq,rfl,rfl,bk⟩ | ⟨e,hq,hne,rfl⟩
 have bt:World.ownsRow w124 w1.heap.size 127 8 aO (F.rules++ [q]).length (jD ((F.rules++ [q]).zip (V.rn++ [vn]))):=by
  rw [List.zip_append bC,show jD (F.rules.zip V.rn++ [q].zip [vn])=jD (F.rules.zip V.rn)++lf (q,vn) from by simp [jD],List.length_append]
  exact aN
 have hF7:=dz.pK (x:=q) (vx:=vn) hF5 (bk.wk hE123) M bt hM9 am
 exact ⟨.inl ⟨_,by unfold fA; rw [if_neg h0,if_neg h1,hq],rfl,⟨_,vh,hF7,hR7,⟨by simp only [List.length_append,List.length_singleton]; omega,hB.sl,hB.row,hB.kd⟩,C,hkl⟩⟩,C⟩
 exact ⟨.inr ⟨e,by unfold fA; rw [if_neg h0,if_neg h1,hq],hne,rfl,hR7.bM⟩,C⟩
 have bw:r.length=4∨r.length=5:=by omega
 refine sk rfl rfl rfl rfl (sk rfl rfl rfl rfl (sk rfl rfl rfl rfl (p (a5 rfl) (au ((ab _ _ (cf rfl (az ?_))))))))
 refine tn (ax _ _ (sq (fun _ J=> ?_)))
 have s:(fun w'=>Wk w w') w.drew:=(Md.refl _ _).drew
 refine bD (fun w'=>Wk w w') rfl wide s (aB 0 rfl (fun _ _=>mv) s (aB 1 rfl (fun _ _=>nc rfl) s (aB 2 rfl (fun _ _=>fa k5 rfl) s (aB 3 rfl (fun w' a=>ld lM rfl (Wk.aE a (aV))) s (aB 4 rfl (fun _ _=>mv) s (aB 5 rfl (fun _ _=>nc rfl) s (aB 6 rfl (fun _ _=>fa k5 rfl) s ?_)))))))
 refine aB 7 rfl (fun w' a=>ld lM rfl (Wk.aE a (aV))) s (aB 8 rfl (fun _ _=>ba vm rfl rfl) s (aB 9 rfl (fun _ _=>cM ((F.a3.length - 1:Nat):Int) rfl rfl (aR (by omega) (by omega))) s (aB 10 rfl (fun _ _=>aJ qi rfl rfl (by omega) (aw.ok (aw.wk (aM ho11).2 s) (qE (by omega)))) s (aB 11 rfl (fun w' a=>dB m6 rfl (rfl) (fun j aL=>eQ (f:=jz) (m:=5) (fun _=>rfl) (aw.wk (aM ho11).2 a) (oq (by omega :F.a3.length - 1 < F.a3.length)) j aL)) s (he 12 rfl (by kernel_rfl) (fT mW fun aY w11 hb11 an aZ=> ?_))))))
 have hz11:=an.size
 have hz20:=s.size
 have bf:(fun w'=>Wk w w') w11:=s.trans an.md
 refine ⟨bf,?_⟩
 refine he 13 rfl (by kernel_rfl) (gj lU rfl rfl rfl rfl aZ (by decide) fun w20 a8 a1=> ?_)
 have Z:Wk w w20:=(s.trans an.md).trans' a8 (fun k hk h=>by omega)
 have ar:w20.heap[aY]? =some (.cells (jz (eB F)).toArray 129 (0,0)):=a1
 have bh:(fun w'=>Wk w w') w20:=Z
 refine ⟨bh,?_⟩
 refine hn (by kernel_rfl) (tn (J _ _ (sq (fun _ ai=> ?_))))
 have hS21:(fun w'=>Wk w20 w') w20.drew:=(Md.refl _ _).drew
 refine bD (fun w'=>Wk w20 w') rfl wide hS21 (aB 0 rfl (fun _ _=>fa qv rfl) hS21 (aB 1 rfl (fun w' a=>ld bT rfl (Wk.aE a ((aQ ar).trans rfl))) hS21 (aB 2 rfl (fun _ _=>fa tz rfl) hS21 (aB 3 rfl (fun w' a=>ld bT rfl (Wk.aE a ((aQ ar).trans rfl))) hS21 (aB 4 rfl (fun _ _=>fa za rfl) hS21 (aB 5 rfl (fun w' a=>ld pF rfl (Wk.aE a ((aQ ar).trans rfl))) hS21 (bd 6 rfl (aH H.rb) hS21 ?_)))))))
 refine aB 7 rfl (fun _ _=>nc rfl) hS21 (aB 8 rfl (fun _ _=>fa k8 rfl) hS21 (aB 9 rfl (fun w' a=>ld bT rfl (Wk.aE a ((aQ (I.wk Z).cells).trans rfl))) hS21 (aB 10 rfl (fun _ _=>bZ (ps:= [(0,ae ((eB F).kind)),(1,bq (eB F).flag),(2,.bool (eB F).dX),(7,ae ln)]) (L:= [ae ((eB F).kind),bq (eB F).flag,.bool (eB F).dX,.string ⟨⟨[]⟩⟩,.string ⟨⟨[]⟩⟩,.string ⟨⟨[]⟩⟩,.slice none 0 0,ae ln]) BC rfl (rfl)) hS21 (he 11 rfl (by kernel_rfl) (fT Cf fun al w12 hb12 ao hB12=> ?_)))))
 have hz12:=ao.size
 have bi:(fun w'=>Wk w20 w') w12:=hS21.trans ao.md
 refine ⟨bi,?_⟩
 refine he 12 rfl (by kernel_rfl) (gj x6 rfl rfl rfl rfl hB12 (by decide) fun w21 a9 a2=> ?_)
 have hE21:Wk w20 w21:=(hS21.trans ao.md).trans' a9 (fun k hk h=>by have :=hS21.size; omega)
 have hE21x:=Z.trans hE21
 have bA:w21.heap[al]? =some (.cells [ae ((eB F).kind),bq (eB F).flag,.bool (eB F).dX,str [],str [],str [],.slice none 0 0,ae ln].toArray 127 (0,0)):=a2
 have hs21:=hS21.size
 have hs20:=Z.size
 have bj:(fun w'=>Wk w20 w') w21:=hE21
 refine ⟨bj,?_⟩
 refine hn (by kernel_rfl) (tn (ai _ _ (U (fun _ O=>(p mv (ag (.slice E r.length G) (e (cl xk (zz w1.heap.size H.fb al F V (eB F) ln r aW E G w21 (hF.wk hE21x).r hB.kd (by omega) bA (hT.wk hE21x) bw hrl) rfl fun cs w116 bc=> ?_))))))))
 obtain ⟨bo,L,aG,a4,a7,bx⟩:=bc
 have Y:Wk w w116:=hE21x.trans' bo (fun k hk h=>by omega)
 have hF4:=hF.wk Y
 have hR4:=I.wk Y
 have cn:¬(V.cC.ownBlock=some H.rb):=cw hF4.cQ hR4.cells (by decide)
 have bs:¬(V.cC.ownBlock=some H.fb):=cw hF4.cQ hF4.cells (by decide)
 have hnx:¬(V.cC.ownBlock=some al):=fun h=>by have :=(cG hF.cQ h).2; omega
 refine aj (((O _ _ (sq (fun _ aD=> ?_)))))
 have A:(fun w'=>Md (fun k=>V.cC.ownBlock=some k) w116 w') w116.drew:=(Md.refl _ _).drew
 refine dH (fun w'=>Md (fun k=>V.cC.ownBlock=some k) w116 w') 10 rfl wide A (a6 0 rfl (fun _=>mv) (fun _=>A) (a6 1 rfl (fun _=>mv) (fun _=>A) (a6 2 rfl (fun _=>nc rfl) (fun _=>A) (a6 3 rfl (fun _=>fa jZ rfl) (fun _=>A) (cT 4 rfl (fun w' a=>ld kU rfl (Md.aE a ((aQ hF4.cells).trans rfl) bs)) A (cT 5 rfl (fun w' a=>dB vY rfl (aG) (fun j aL=>bG.c8 ⟨_,Md.aA a a7 hnx⟩ j)) A (fE 6 rfl (by kernel_rfl) (im ri rfl rfl aG fun b3 w123 cc bb a0=> ?_))))))))
 have hE123:=ff bb.md
 have hF5:=hF4.wk hE123
 have hR5:=hR4.wk hE123
 have hz5:=(Y.trans hE123).size
 have aK:(fun w'=>Md (fun k=>V.cC.ownBlock=some k) w116 w') w123:=Md.mono hE123 (fun _ _ h=>h.elim)
 refine ⟨aK,?_⟩
 refine fE 7 rfl (by kernel_rfl) (ap ri (hF5.cQ) rfl (by omega) rfl (aw.cU a0) (by omega) (a4) (by omega) (by omega) fun aO w124 aN M cr ck=> ?_)
 have hR6:=hR5.own hF5.cQ M (by decide)
 have hc6:=M.aA hF5.cells (cw hF5.cQ hF5.cells (by decide))
 have hW6:Wk w1 w124:=(ac.trans (Y.trans hE123)).trans' M (fun k hk h=>by have :=(cG hF5.cQ h).1; omega)
 have aq:(fun w'=>Md (fun k=>V.cC.ownBlock=some k) w116 w') w124:=aK.trans' M (fun _ _ h=>h)
 refine ⟨aq,?_⟩
 refine a6 8 rfl (fun _=>nc rfl) (fun _=>aq) (a6 9 rfl (fun _=>fa jZ rfl) (fun _=>aq) (cE 10 rfl (by kernel_rfl) (by kernel_rfl) (cj x5 rfl rfl (v:=aO) (dU aN) hc6 (by show _ < 13; omega) fun w9 hM9 am=> ?_)))
 have hR7:=hR6.kA hc6 hM9
 have C:Wk w1 w9:=hW6.trans' hM9 (fun k hk h=>by omega)
 refine dG (by kernel_rfl) ?_
 refine tn (aD _ _ (U (fun _ aF=>(p mv (aj (((aF _ _ (rt ?_)))))))))
 refine f1 rfl rfl ?_
 have bC:F.rules.length=V.rn.length:=by have :=hF5.nx.1; rw [List.length_map] at this; exact this.symm
 rcases bx with ⟨q,vn,hq,rfl,rfl,bk⟩ | ⟨e,hq,hne,rfl⟩
 have bt:World.ownsRow w124 w1.heap.size 127 8 aO (F.rules++ [q]).length (jD ((F.rules++ [q]).zip (V.rn++ [vn]))):=by
  rw [List.zip_append bC,show jD (F.rules.zip V.rn++ [q].zip [vn])=jD (F.rules.zip V.rn)++lf (q,vn) from by simp [jD],List.length_append]
  exact aN
 have hF7:=dz.pK (x:=q) (vx:=vn) hF5 (bk.wk hE123) M bt hM9 am
 exact ⟨.inl ⟨_,by unfold fA; rw [if_neg h0,if_neg h1,hq],rfl,⟨_,vh,hF7,hR7,⟨by simp only [List.length_append,List.length_singleton]; omega,hB.sl,hB.row,hB.kd⟩,C,hkl⟩⟩,C⟩
 exact ⟨.inr ⟨e,by unfold fA; rw [if_neg h0,if_neg h1,hq],hne,rfl,hR7.bM⟩,C⟩
end Go.Hb.rS
end
section
set_option maxRecDepth 20000
set_option maxHeartbeats 1000000
namespace Go.Hb.vP
open Go.Hb.di
open Go.Proofs
open Go.Hb.km Go.Hb.m4 Go.Hb.rS Go.Hb.eX Go.Hb.fH Go.Hb.iV Go.Hb.fP Go.Hb.iG Go.Hb.jP Go.Hb.kQ Go.Hb.gY Go.Hb.m5 Go.Hb.gF Go.Hb.pq Go.Hb.kS Go.Hb.lH Go.Hb.po Go.Hb.mq Go.Hb.gr Go.Hb.fS
theorem drop_nil {α:Type} {l:List α} {k:Nat} (h:l.length≤k):l.drop k= []:=List.drop_eq_nil_of_le h
theorem IK {F:aI} {c:bX} :eB {F with a3:=F.a3++ [c]} =c:=by
 unfold eB
 simp [List.getD_eq_getElem?_getD]
theorem EJ {eof ln x n:Nat} {F:aI} {rows:List Rw} {r:List Tx} (hr:r.length=4) (hk:r.getD 0 []≠dE) (a:r.getD 0 []≠db) (h:eF F (r.getD 1 [])= .ok x) (h1:r.getD 2 []= [89]∨r.getD 2 []= [78]) (h2:dy (r.getD 3 []) 1024= .ok n) (h3:¬1024 < F.rules.length+n):
 eN eof F rows ln r=eG (gI r) eof n {F with a3:=F.a3++ [(⟨x,(if r.getD 0 []=bQ then 2 else 1:Nat),(decide (r.getD 2 []= [89])),F.rules.length,n⟩:bX)]} rows:=by
 rw [zJ hr,Hu hk a,IK]
 unfold eN
 rw [h]
 simp only
 rw [if_neg (fun h3=>h1.elim h3.1 h3.2),h2]
 simp only
 rw [if_neg h3]
 all_goals rfl
theorem Ks {eof ln n:Nat} {F:aI} {rows:List Rw} {r:List Tx} (hr:r.length=2) (hk:r.getD 0 []=dE) (h2:dy (r.getD 1 []) 256= .ok n):gM eof F rows ln r=eG (gI r) eof n F rows:=by
 rw [zI (by omega),hk,Ht]
 unfold gM
 rw [h2]
 all_goals rfl
theorem CM {eof ln n:Nat} {F:aI} {seen:List Tx} {rows:List Rw} {r:List Tx} (hr:r.length=2) (hk:r.getD 0 []=db) (h0:¬(dQ∈seen∨bQ∈seen)) (h2:dy (r.getD 1 []) 1024= .ok n):gu eof F seen rows ln r=eG (gI r) eof n F rows:=by
 rw [zI (by omega),hk,Hs]
 unfold gu
 rw [if_neg h0,h2]
 all_goals rfl
theorem HA {F:aI} {V:fp} {i o x:Nat} (h5:F.sp.length=5) (hi:i < 5) (j:o=3 +i):(j0 F V).set o (bq x)=j0 {F with sp:=F.sp.set i x} V:=by
 subst j
 obtain ⟨k,cs,tr,sp,le,p,al,cl,q⟩:=F
 match sp,h5 with
 | [a,b,c,d,e],_=>
   match i,hi with
   | 0,_=>rfl
   | 1,_=>rfl
   | 2,_=>rfl
   | 3,_=>rfl
   | 4,_=>rfl
theorem vd {s:Tx} (h:s∈cO):cO.idxOf s < 5:=by
 have :∀ k∈cO,cO.idxOf k < 5:=by decide
 exact this s h
theorem vc {s:Tx} (h:s∈cO):lr s=(cO.idxOf s:Nat):=if_pos h
section
variable {eof ln:Nat} {F:aI} {seen:List Tx} {rows:List Rw} {r:List Tx}
theorem zC (h:r.getD 0 []∈cO):bA eof F seen rows ln r=gO F rows ln r:=by unfold bA; rw [if_pos h]
theorem HE (h:r.getD 0 []=eS):bA eof F seen rows ln r=gT F seen rows ln r:=by unfold bA; rw [h]; rfl
theorem zB (h:r.getD 0 []=e8):bA eof F seen rows ln r=jK F rows ln r:=by unfold bA; rw [h]; rfl
theorem zD (h:r.getD 0 []=fu):bA eof F seen rows ln r=jO F rows ln r:=by unfold bA; rw [h]; rfl
theorem tS (h:r.getD 0 []=gz):bA eof F seen rows ln r=ib F rows ln r:=by unfold bA; rw [h]; rfl
theorem zA (h:r.getD 0 []=dE):bA eof F seen rows ln r=gM eof F rows ln r:=by unfold bA; rw [h]; rfl
theorem qH (h:r.getD 0 []=db):bA eof F seen rows ln r=gu eof F seen rows ln r:=by unfold bA; rw [h]; rfl
theorem HD (h:r.getD 0 []=dQ∨r.getD 0 []=bQ):bA eof F seen rows ln r=eN eof F rows ln r:=by rcases h with h | h <;> (unfold bA; rw [h]; rfl)
theorem J0 {k:Tx} (hw:width k≠0) (h0:k∉cO) (h1:k≠eS) (h2:k≠e8) (h3:k≠fu) (h4:k≠gz) (h5:k≠dE) (a:k≠db):k=dQ∨k=bQ:=by
 unfold width at hw
 rw [if_neg (by simp [h0,h1,h2,h3,h4,h5,a])] at hw
 by_cases h:k=dQ∨k=bQ
 · exact h
 · rw [if_neg h] at hw; exact absurd rfl hw
end
theorem dS.eq {w1:World} {H:eb} {seen:List Tx} {X Y:Except (Nat×Nat) (aI×List Rw)} {v:Value} {w:World} (h:dS w1 H seen X v w) (he:Y=X):dS w1 H seen Y v w:=he ▸ h
theorem dS.er {w1:World} {H:eb} {seen:List Tx} {X:Except (Nat×Nat) (aI×List Rw)} {w:World} {l e:Nat} (h:X= .error (l,e)) (he:e≠0) (hl:Hb.aE w.heap H.rb 5=some (.int .i64 (l:Nat))) (hw:Wk w1 w):dS w1 H seen X (.int .i64 (e:Nat)) w:=⟨.inr ⟨l,e,h,he,rfl,hl⟩,hw⟩
theorem tM (w1:World) (H:eb) (F:aI) (k ln:Nat) (seen hd:List Tx) (a1:Nat) (O:Option Addr) (Z n:Nat) (w:World) (ay:GS w1 H) (A:iY w1 w H F k ln seen) (hT:Tg w1 a1 9 hd.length (.slice O hd.length Z) (hd.map str)) (hh:hd.length=2∨hd.length=4) (b5:n≤70000) (hcl:hd.getD 0 []≠dE→hd.getD 0 []≠db→0 < F.a3.length):
 aU Tryz.prog 82 (List.toArray [aH H.rb,.slice O hd.length Z,ae n]) w (dS w1 H seen (eG (gI hd) H.eof n F (H.rows.drop k))):=by
 have am:∀ w,Wk w1 w→bu w.heap O hd:=fun w h=>(hT.wk h).bH.2
 obtain ⟨bt,c0,aX⟩:∃ a c,H.vr= .slice a H.rows.length c:=by obtain ⟨B0,h1,_⟩:=ay; exact h1.slice
 have aK:∀ (w:World) (k l:Nat) (s:List Tx) (vh:Value),eJ w w1.heap.size H k l s vh→Hb.aE w.heap H.rb 1=some (.slice bt H.rows.length c0):=fun w k l s vh h=>by rw [← aX]; exact (aQ h.cells).trans rfl
 refine enter Tryz.func82 rfl Tryz.ntmps82 rfl ?_
 refine U (fun _ a2=>(aj (((a2 _ _ (sq (fun _ bj=>U (fun _ bk=> ?_))))))))
 refine aj (((bk _ _ (aA (lp (fun aN al wI=> ∃ (i:Nat) (F':aI) (k' aL:Nat),(i≤n)∧(eG (gI hd) H.eof (n - i) F' (H.rows.drop k')=eG (gI hd) H.eof n F (H.rows.drop k))∧(iY w1 wI H F' k' aL seen)∧(F'.a3=F.a3)∧(al 0=aH H.rb)∧(al 1= .slice O hd.length Z)∧(al 2=ae n)∧(al 7=ae i)∧(n - i=aN)) _ ⟨0,F,k,ln,(by omega),rfl,A,rfl,rfl,rfl,rfl,rfl,rfl⟩ ?_)))))
 rintro aN al wI ⟨i,F',k',aL,hi,hX,hSI,hcs,bR,bS,bU,bV,rfl⟩
 refine fx 0 bR (fx 1 bS (fx 2 bU (fx 7 bV ?_)))
 have hSI0:=hSI
 obtain ⟨V,vh,hF,ac,hB,aO,hkl⟩:=hSI
 have b4:H.rows.length≤70000:=by obtain ⟨_,_,_,h⟩:=ay; exact h
 refine sq (fun _ bl=>U (fun _ bo=>(ag (ae i) (ag (ae n) (p (lt rfl rfl) (au ((bo _ _ ?_))))))))
 refine cd rfl (fun bI=> ?_) (fun bI=> ?_)
 refine az (tn (bl _ _ (sq (fun _ aq=>aA (sq (fun _ bq=>sq (fun _ bs=> ?_)))))))
 have I:(fun w'=>Wk wI w') wI.drew:=(Md.refl _ _).drew
 refine bD (fun w'=>Wk wI w') rfl wide I (bd 0 rfl (aH H.rb) I (aB 1 rfl (fun _ _=>nc rfl) I (aB 2 rfl (fun _ _=>fa kE rfl) I (aB 3 rfl (fun w' A=>ld bT rfl (Wk.aE A ((aQ ac.cells).trans rfl))) I (bd 4 rfl (aH H.rb) I (aB 5 rfl (fun _ _=>nc rfl) I (aB 6 rfl (fun _ _=>fa tw rfl) I ?_)))))))
 refine aB 7 rfl (fun w' A=>ld rX rfl (Wk.aE A (aK _ _ _ _ _ ac))) I (aB 8 rfl (fun _ _=>ba rD rfl rfl) I (aB 9 rfl (fun _ _=>ge rfl rfl) I (hn (by kernel_rfl) ?_)))
 have hR4:=ac.wk I
 have hF4:=hF.wk I
 have hE4:=aO.trans I
 refine tn (bs _ _ (cd rfl (fun bJ=> ?_) (fun bJ=> ?_)))
 have hnil:H.rows.drop k'= []:=drop_nil (by omega)
 rw [hnil] at hX
 refine U (fun _ ar=>(ag (aH H.rb) (ag (aH H.rb) (p (nc rfl) (p (fa GY rfl) (p (ld bT rfl ((aQ hR4.cells).trans rfl)) (p (nc rfl) ?_)))))))
 refine p (fa k8 rfl) (e (cj fV rfl rfl (v:=ae (H.eof)) rfl hR4.cells (by show _ < 6; omega) fun w5 aP bv=> ?_))
 have hR5:=hR4.cW (k':=k') (ln':=H.eof) aP bv
 have bF:Wk w1 w5:=hE4.trans' aP (fun q hq h=>by have :=ac.lo; omega)
 refine au ((ar _ _ (U (fun _ ap=>(aj (((ap _ _ (rt ?_)))))))))
 exact tr (br (tr (tr (br (tr (f1 rfl rfl (dS.er (Hq hX (by omega)) (by decide) hR5.bM bF)))))))
 obtain ⟨J,M,av,ax,b2,c',ao,aY,hCr,aW,⟨a0,hT1⟩,hvl⟩:=ay.get hE4 (k:=k') (by omega)
 rw [aX] at aY
 cases aY
 have hdl:=congrArg List.length ao
 simp only [List.length_cons] at hdl
 rw [ao] at hX
 have hrow:=hB.row (J,M) (by rw [ao]; exact List.mem_cons_self ..)
 have b6:0 < M.length:=List.length_pos_iff.2 hrow.1
 have hbl:=hB.len
 refine az (tn (bq _ _ (sq (fun _ ar=> ?_))))
 have E:(fun w'=>Wk wI.drew w') wI.drew.drew:=(Md.refl _ _).drew
 refine bD (fun w'=>Wk wI.drew w') rfl wide E (bd 0 rfl (aH H.rb) E (aB 1 rfl (fun _ _=>nc rfl) E (aB 2 rfl (fun _ _=>fa tw rfl) E (aB 3 rfl (fun w' A=>ld rX rfl (Wk.aE A (aK _ _ _ _ _ hR4))) E (bd 4 rfl (aH H.rb) E (aB 5 rfl (fun _ _=>nc rfl) E (aB 6 rfl (fun _ _=>fa kE rfl) E ?_)))))))
 refine aB 7 rfl (fun w' A=>ld bT rfl (Wk.aE A ((aQ hR4.cells).trans rfl))) E (aB 8 rfl (fun _ _=>aJ jX rfl rfl (by omega) (aw.ok (hCr) (iD (by omega)))) E (aB 9 rfl (fun _ _=>fa oC rfl) E (aB 10 rfl (fun w' A=>ld gl rfl (Wk.aE A (iF hCr aW 1 (by decide)))) E (aB 11 rfl (fun _ _=>ak) E (hn (by kernel_rfl) ?_)))))
 have hR7:=hR4.wk E
 refine tn (ar _ _ (sq (fun _ ap=> ?_)))
 have C:(fun w'=>Wk wI.drew.drew w') wI.drew.drew.drew:=(Md.refl _ _).drew
 refine dH (fun w'=>Wk wI.drew.drew w') 14 rfl wide C (a4 0 rfl (aH H.rb) C (a4 1 rfl (aH H.rb) C (a6 2 rfl (fun _=>nc rfl) (fun _=>C) (a6 3 rfl (fun _=>fa tw rfl) (fun _=>C) (cT 4 rfl (fun w' A=>ld rX rfl (Wk.aE A (aK _ _ _ _ _ hR7))) C (a4 5 rfl (aH H.rb) C (a6 6 rfl (fun _=>nc rfl) (fun _=>C) ?_)))))))
 refine a6 7 rfl (fun _=>fa kE rfl) (fun _=>C) (cT 8 rfl (fun w' A=>ld bT rfl (Wk.aE A ((aQ hR7.cells).trans rfl))) C (a6 9 rfl (fun _=>aJ jX rfl rfl (by omega) (aw.ok (hCr) (iD (by omega)))) (fun _=>C) (a6 10 rfl (fun _=>fa nr rfl) (fun _=>C) (cT 11 rfl (fun w' A=>ld bT rfl (Wk.aE A (iF (aw.wk hCr E) aW 0 (by decide)))) C (a6 12 rfl (fun _=>nc rfl) (fun _=>C) (a6 13 rfl (fun _=>fa k8 rfl) (fun _=>C) (cE 14 rfl (by kernel_rfl) (by kernel_rfl) (cj fV rfl rfl (v:=ae J) rfl (hR7.wk C).cells (by show _ < 6; omega) fun w8 aD bw=> ?_))))))))
 have hR8:=(hR7.wk C).cW (k':=k') (ln':=J) aD bw
 have hF8:=((hF4.wk E).wk C).rb (hR7.wk C) aD
 have bG:Wk w1 w8:=((hE4.trans E).trans C).trans' aD (fun q hq h=>by have :=ac.lo; omega)
 refine dG (by kernel_rfl) ?_
 refine tn (ap _ _ (U (fun _ a7=>(ag (aH H.rb) (ag (aH H.rb) (p (nc rfl) (p (fa kE rfl) (p (ld bT rfl ((aQ hR8.cells).trans rfl)) ?_))))))))
 refine p (bc ((k'+1:Nat):Int) rfl rfl (aR (by omega) (by omega))) (p (nc rfl) (p (fa kE rfl) (e (cj fV rfl rfl (v:=(ae (k'+1))) rfl hR8.cells (by show _ < 6; omega) fun w9 hM9 bx=> ?_))))
 have hR9:=hR8.cW (k':=k'+1) (ln':=J) hM9 bx
 have hF9:=hF8.rb hR8 hM9
 have aa:Wk w1 w9:=bG.trans' hM9 (fun q hq h=>by have :=ac.lo; omega)
 refine au ((a7 _ _ (sq (fun _ bb=>sq (fun _ bh=> ?_)))))
 have G:(fun w'=>Wk w9 w') w9.drew:=(Md.refl _ _).drew
 refine bD (fun w'=>Wk w9 w') rfl wide G (aB 0 rfl (fun _ _=>mv) G (aB 1 rfl (fun _ _=>aJ bE rfl rfl (by omega) (aw.ok ((hT1.wk aa).bH.2) (bp (by omega)))) G (aB 2 rfl (fun w' A=>ld bz rfl (Wk.aE A (bu.get (i:=0) (hT1.wk aa).bH.2 (by omega)))) G (bd 3 rfl (.slice O hd.length Z) G (aB 4 rfl (fun _ _=>aJ bE rfl rfl (by omega) (aw.ok (am _ aa) (bp (by omega)))) G (aB 5 rfl (fun w' A=>ld bz rfl (Wk.aE A (bu.get (i:=0) (am _ aa) (by omega)))) G (aB 6 rfl (fun _ _=>j8 rfl rfl) G ?_)))))))
 refine hn (by kernel_rfl) ?_
 have hW10:=aa.trans G
 refine tn (bh _ _ (cd rfl (fun aF=> ?_) (fun aF=> ?_)))
 have h0:M.getD 0 []≠hd.getD 0 []:=aF
 refine U (fun _ Y=>(aj (((Y _ _ (rt (tr (br ?_))))))))
 exact tr (tr (br (tr (f1 rfl rfl (dS.er (tL hX (by omega) (HW h0)) (by decide) (hR9.wk G).bM hW10)))))
 have h0:M.getD 0 []=hd.getD 0 []:=Classical.not_not.1 aF
 refine az (tn (bb _ _ ?_))
 refine c7 (fun ah aM=>(M.take (gI hd).length=gI hd)∧(Wk w9 aM)∧(ah 0=aH H.rb)∧(ah 1= .slice O hd.length Z)∧(ah 2=ae n)∧(ah 7=ae i)∧(ah 8= .slice av M.length ax)) ?_ ?_
 refine sq (fun _ Y=> ?_)
 have j:(fun w'=>Wk w9.drew w') w9.drew.drew:=(Md.refl _ _).drew
 refine bD (fun w'=>Wk w9.drew w') rfl wide j (bd 0 rfl (.slice O hd.length Z) j (aB 1 rfl (fun _ _=>ba dx rfl rfl) j (aB 2 rfl (fun _ _=>bf rfl rfl) j (aB 3 rfl (fun _ _=>mv) j (iQ (t:=75) rfl (fun bL=> ?_) (fun bL=> ?_))))))
 refine a8 4 rfl (by kernel_rfl) rfl rfl rfl (fun _ _=>mv) j (a8 5 rfl (by kernel_rfl) rfl rfl rfl (fun _ _=>ba dx rfl rfl) j (a8 6 rfl (by kernel_rfl) rfl rfl rfl (fun _ _=>lt rfl rfl) j (a8 7 rfl (by kernel_rfl) rfl rfl rfl (fun _ _=>mv) j (iQ (t:=79) rfl (fun bN=> ?_) (fun bN=> ?_)))))
 refine a9 8 rfl (by kernel_rfl) rfl rfl rfl rfl j ?_
 refine a9 9 rfl (by kernel_rfl) rfl rfl rfl rfl j ?_
 refine a9 10 rfl (by kernel_rfl) rfl rfl rfl rfl j ?_
 refine a9 11 rfl (by kernel_rfl) rfl rfl rfl rfl j ?_
 refine a9 12 rfl (by kernel_rfl) rfl rfl rfl rfl j ?_
 refine a9 13 rfl (by kernel_rfl) rfl rfl rfl rfl j ?_
 refine a9 14 rfl (by kernel_rfl) rfl rfl rfl rfl j ?_
 refine a8 15 rfl (by kernel_rfl) rfl rfl rfl (fun _ _=>bg rfl) j (aB 16 rfl (fun _ _=>bg rfl) j (hn (by kernel_rfl) (tn (Y _ _ (ct rfl (U (fun _ ai=>(p ak ?_))))))))
 refine au ((ai _ _ (rt (tr (br (tr (tr (br ?_))))))))
 exact tr (f1 rfl rfl (dS.er (tL hX (by omega) (zL (by omega) (.inl (by omega)))) (by decide) ((hR9.wk G).wk j).bM (hW10.trans j)))
 refine a8 8 rfl (by kernel_rfl) rfl rfl rfl (fun _ _=>mv) j (a8 9 rfl (by kernel_rfl) rfl rfl rfl (fun _ _=>aJ bE rfl rfl (by omega) (aw.ok ((hT1.wk hW10).bH.2) (bp (by omega)))) j (a8 10 rfl (by kernel_rfl) rfl rfl rfl (fun w' A=>ld bz rfl (Wk.aE A (bu.get (i:=1) (hT1.wk hW10).bH.2 (by omega)))) j (a8 11 rfl (by kernel_rfl) rfl rfl rfl (fun _ _=>aC (.slice O hd.length Z) rfl) j (a8 12 rfl (by kernel_rfl) rfl rfl rfl (fun _ _=>aJ bE rfl rfl (by omega) (aw.ok (am _ hW10) (bp (by omega)))) j (a8 13 rfl (by kernel_rfl) rfl rfl rfl (fun w' A=>ld bz rfl (Wk.aE A (bu.get (i:=1) (am _ hW10) (by omega)))) j (a8 14 rfl (by kernel_rfl) rfl rfl rfl (fun _ _=>j8 rfl rfl) j (a8 15 rfl (by kernel_rfl) rfl rfl rfl (fun _ _=>a5 rfl) j ?_)))))))
 refine aB 16 rfl (fun _ _=>bg rfl) j (hn (by kernel_rfl) (tn (Y _ _ (cd rfl (fun aG=> ?_) (fun aG=> ?_)))))
 refine U (fun _ ai=>(aj (((ai _ _ (rt (tr (br ?_))))))))
 exact tr (tr (br (tr (f1 rfl rfl (dS.er (tL hX (by omega) (zL (by omega) (.inr aG))) (by decide) ((hR9.wk G).wk j).bM (hW10.trans j))))))
 exact az (tn (⟨(zM h0 hrow.1 (fun _=>⟨by omega,Classical.not_not.1 aG⟩)),(G.trans j),rfl,rfl,rfl,rfl,rfl⟩))
 refine a9 4 rfl (by kernel_rfl) rfl rfl rfl rfl j ?_
 refine a9 5 rfl (by kernel_rfl) rfl rfl rfl rfl j ?_
 refine a9 6 rfl (by kernel_rfl) rfl rfl rfl rfl j ?_
 refine a9 7 rfl (by kernel_rfl) rfl rfl rfl rfl j ?_
 refine mI 8 rfl (by kernel_rfl) rfl rfl rfl j ?_
 refine mI 9 rfl (by kernel_rfl) rfl rfl rfl j ?_
 refine mI 10 rfl (by kernel_rfl) rfl rfl rfl j ?_
 refine mI 11 rfl (by kernel_rfl) rfl rfl rfl j ?_
 refine mI 12 rfl (by kernel_rfl) rfl rfl rfl j ?_
 refine mI 13 rfl (by kernel_rfl) rfl rfl rfl j ?_
 refine mI 14 rfl (by kernel_rfl) rfl rfl rfl j ?_
 refine a9 15 rfl (by kernel_rfl) rfl rfl rfl rfl j ?_
 exact aB 16 rfl (fun _ _=>a5 rfl) j (hn (by kernel_rfl) (tn (Y _ _ (cf rfl (az (tn (⟨(zM h0 hrow.1 (fun h=>absurd h (by omega))),(G.trans j),rfl,rfl,rfl,rfl,rfl⟩)))))))
 rintro ah aM ⟨aV,an,bW,bX,bY,bZ,b0⟩
 refine fx 0 bW (fx 1 bX (fx 2 bY (fx 7 bZ (fx 8 b0 (U (fun _ Y=>(ag (aH H.rb) (ag (.slice av M.length ax) (e (cl Dg (Hx w1 H F' (k'+1) J seen M a0 av ax aM ⟨V,vh,hF9.wk an,hR9.wk an,kg.k4 (ao ▸ hB),aa.trans an,by omega⟩ (hT1.wk (aa.trans an)) hrow.1 hrow.2.2 (by omega) (fun h1 h2=>by rw [hcs]; exact hcl (h0 ▸ h1) (h0 ▸ h2))) rfl fun b1 aZ bA=> ?_))))))))))
 obtain ⟨bP,hW91⟩:=bA
 obtain ⟨b3,rfl,aT⟩:∃ e:Nat,b1=ae e∧((e=0∧∃ ab,fA F' J M= .ok ab∧iY w1 aZ H ab (k'+1) J seen)∨(e≠0∧fA F' J M= .error e∧Hb.aE aZ.heap H.rb 5=some (ae J))):=by
  rcases bP with ⟨ab,h1,h2,h3⟩ | ⟨e,h1,h2,h3,h4⟩
  exact ⟨0,h2,.inl ⟨rfl,ab,h1,h3⟩⟩
  exact ⟨e,h3,.inr ⟨h2,h1,h4⟩⟩
 refine aj (((Y _ _ (U (fun _ ai=>(p mv (p (bB rfl rfl) (nl ?_))))))))
 refine tn (ai _ _ (cd rfl (fun bK=> ?_) (fun bK=> ?_)))
 obtain ⟨hne,bO,bQ⟩:=aT.resolve_left (fun h=>by omega)
 refine U (fun _ bi=>(p mv (aj (((bi _ _ (rt (br ?_))))))))
 exact tr (tr (br (tr (f1 rfl rfl (dS.er (Ho hX (by omega) aV bO) hne bQ hW91)))))
 obtain ⟨_,ab,aS,bC⟩:=aT.resolve_right (fun h=>by omega)
 refine az (bn (tn (aq _ _ (rg rfl (ag (ae i) (p (ad rfl rfl (bm (by omega))) (p ak (nl ?_))))))))
 exact tn (⟨_,by omega,i+1,ab,k'+1,J,(by omega),((by rw [show n - (i+1)=n - i - 1 by omega]; exact Hr hX (by omega) aV aS)),bC,((Hw aS).1.trans hcs),rfl,rfl,rfl,rfl,rfl⟩)
 refine ext (te _ (te _ (be (tn (bj _ _ (U (fun _ aq=>(p ak ?_))))))))
 refine au ((aq _ _ (rt (f1 rfl rfl ?_))))
 rw [show n - i=0 by omega] at hX
 exact ⟨.inl ⟨F',k',aL,Hp hX,rfl,hSI0⟩,aO⟩
theorem Hf (w1:World) (H:eb) (F:aI) (k ln:Nat) (seen r:List Tx) (aK:Nat) (A:Option Addr) (C:Nat) (w:World) (bj:GS w1 H) (q:iY w1 w H F k ln seen) (hT:Tg w1 aK 9 r.length (.slice A r.length C) (r.map str)) (hrl:∀ x∈r,x.length≤70000) (b2:F.bN.length+F.aliases.length+F.a3.length+F.rules.length+(H.rows.drop k).length < 70000) (hr:r.length=4) (aD:r.getD 0 []=dQ∨r.getD 0 []=bQ):
 aU Tryz.prog 83 (List.toArray [aH H.rb,.slice A r.length C]) w (dS w1 H seen (eN H.eof F (H.rows.drop k) ln r)):=by
 have hS0:=q
 obtain ⟨V,vh,hF,G,hB,M,hkl⟩:=q
 have E:∀ w,Wk w1 w→bu w.heap A r:=fun w h=>(hT.wk h).bH.2
 have hlo:=G.lo
 have hflo:=hF.lo
 have hbl:=hB.len
 have hbs:=hB.sl
 have hrbl:=(Array.getElem?_eq_some_iff.1 G.cells).1
 have bF:r.getD 0 []≠dE:=by rcases aD with h | h <;> rw [h] <;> decide
 have bI:r.getD 0 []≠db:=by rcases aD with h | h <;> rw [h] <;> decide
 have hr1:(r.getD 1 []).length≤70000:=hrl _ (c6 (by omega))
 have b7:(r.getD 3 []).length≤70000:=hrl _ (c6 (by omega))
 obtain ⟨a8,gx,bY⟩:=bW hF.cQ
 have aO:Hb.aE w.heap H.fb 12=some (.slice a8 F.rules.length gx):=by rw [← bY]; exact (aQ hF.cells).trans rfl
 refine enter Tryz.func83 rfl Tryz.ntmps83 rfl ?_
 refine U (fun _ aX=>(aj (((aX _ _ (U (fun _ aZ=>(ag (aH H.rb) ?_))))))))
 refine ag (.slice A r.length C) (p (aJ bE rfl rfl (by omega) (aw.ok (E _ M) (bp (by omega)))) (p (ld bz rfl (bu.get (i:=1) (E _ M) (by omega))) (e (cl xL (zw w1.heap.size H F V k ln seen vh (r.getD 1 []) w hF G hB.kd (by omega) (by omega)) rfl fun b9 w14 bm=> ?_))))
 obtain ⟨⟨x,aq,rfl,hfr⟩,hE14⟩:=bm
 have hW14:=M.trans hE14
 refine p mv (p (xt rfl rfl) (p (xt rfl rfl) (p ak (aj (((aZ _ _ (sq (fun _ a0=> ?_)))))))))
 refine U (fun _ a1=>(p mv (p (bB rfl rfl) (au ((a1 _ _ (cd rfl (fun hc18=> ?_) (fun hc18=> ?_))))))))
 have aS:eF F (r.getD 1 [])= .error aq∧aq≠0:=by
  rcases hfr with ⟨_,_,h⟩ | h
  omega
  exact h
 refine U (fun _ J=>(p mv (aj (((J _ _ (rt (tr ?_))))))))
 exact f1 rfl rfl (dS.er (sK aS.1) aS.2 (G.wk hE14).bM hW14)
 obtain ⟨ah,hx0,_⟩:eF F (r.getD 1 [])= .ok x∧x≠0∧aq=0:=by
  rcases hfr with h | ⟨_,h⟩
  exact h
  omega
 refine az (tn (a0 _ _ ?_))
 refine c7 (fun ai aG=>(r.getD 2 []= [89]∨r.getD 2 []= [78])∧(aG=w14)∧(ai 0=aH H.rb)∧(ai 1= .slice A r.length C)∧(ai 5=bq x)) ?_ ?_
 refine U (fun _ J=>(ag (.slice A r.length C) (p (aJ bE rfl rfl (by omega) (aw.ok (E _ hW14) (bp (by omega)))) (p (ld bz rfl (bu.get (i:=2) (E _ hW14) (by omega))) (p (j8 rfl rfl) (p mv (gs (t:=24) rfl (fun ay=> ?_) (fun ay=> ?_))))))))
 refine pg rfl rfl rfl (aC (.slice A r.length C) rfl) (pg rfl rfl rfl (aJ bE rfl rfl (by omega) (aw.ok (E _ hW14) (bp (by omega)))) (pg rfl rfl rfl (ld bz rfl (bu.get (i:=2) (E _ hW14) (by omega))) (pg rfl rfl rfl (j8 rfl rfl) (p (bg rfl) (au ((J _ _ (cd rfl (fun av=> ?_) (fun av=> ?_)))))))))
 refine U (fun _ an=>(aj (((an _ _ (rt (tr (f1 rfl rfl ?_))))))))
 exact dS.er (sL ah ay av) (by decide) (G.wk hE14).bM hW14
 exact az (tn (⟨(.inr (Classical.not_not.1 av)),rfl,rfl,rfl,rfl⟩))
 refine sk rfl rfl rfl rfl (sk rfl rfl rfl rfl (sk rfl rfl rfl rfl (sk rfl rfl rfl rfl (p (a5 rfl) (au ((J _ _ (cf rfl ?_))))))))
 exact az (tn (⟨(.inl (Classical.not_not.1 ay)),rfl,rfl,rfl,rfl⟩))
 rintro ai aG ⟨aF,b0,bL,bO,bP⟩
 refine fx 0 bL (fx 1 bO (fx 5 bP ?_))
 subst b0
 have hW6:=hW14
 refine U (fun _ J=>(ag (.slice A r.length C) (p (aJ bE rfl rfl (by omega) (aw.ok (E _ hW6) (bp (by omega)))) (p (ld bz rfl (bu.get (i:=3) (E _ hW6) (by omega))) (e (cl mB (mR (r.getD 3 []) 1024 aG (by omega) (by omega)) rfl fun ca O bn=> ?_))))))
 obtain ⟨rfl,hE34⟩:=bn
 have hW34:=hW6.trans hE34
 have hE34x:=hE14.trans hE34
 have hnle:=l7 (r.getD 3 []) 1024
 refine p mv (p (xt rfl rfl) (p (xt rfl rfl) (p ak (aj (((J _ _ (sq (fun _ an=> ?_)))))))))
 refine U (fun _ a2=>(p mv (p (bB rfl rfl) (au ((a2 _ _ (cd rfl (fun bw=> ?_) (fun bw=> ?_))))))))
 refine U (fun _ ao=>(p mv (aj (((ao _ _ (rt (tr ?_))))))))
 refine f1 rfl rfl ?_
 have h13:=lk (s:=r.getD 3 []) (most:=1024) (by omega)
 show dS w1 H seen _ (.int .i64 (cJ (r.getD 3 []) 1024).2) O
 rw [h13.2]
 exact dS.er (xR ah aF h13.1) (by decide) (G.wk hE34x).bM hW34
 have hnx:=j9 (by omega :(cJ (r.getD 3 []) 1024).2=0)
 have hnl:=hnle (by omega)
 obtain ⟨n,hn0⟩:∃ n,n=(cJ (r.getD 3 []) 1024).1:=⟨_,rfl⟩
 rw [← hn0] at hnx hnl
 refine az (tn (an _ _ (sq (fun _ ao=>U (fun _ a7=>(ag (aH H.rb) (p (nc rfl) (p (fa iu rfl) ?_))))))))
 refine p (ld il rfl ((aQ (G.wk hE34x).cells).trans rfl)) (p (nc rfl) (p (fa jZ rfl) (p (ld kU rfl (Wk.aE hE34x aO)) (p (ba vo rfl rfl) (p mv (p (bc ((F.rules.length+(cJ (r.getD 3 []) 1024).1:Nat):Int) rfl rfl (aR (by omega) (by omega))) (p (gt rfl rfl) ?_)))))))
 refine au ((a7 _ _ (cd rfl (fun bx=> ?_) (fun bx=> ?_))))
 refine U (fun _ al=>(aj (((al _ _ (rt (tr (f1 rfl rfl ?_))))))))
 exact dS.er (xS ah aF hnx (by omega)) (by decide) (G.wk hE34x).bM hW34
 refine az (tn (ao _ _ (sq (fun _ al=> ?_))))
 have a:(fun w'=>Wk O w') O.drew:=(Md.refl _ _).drew
 refine bD (fun w'=>Wk O w') rfl wide a (bd 0 rfl (bq x) a (bd 1 rfl (.slice A r.length C) a (aB 2 rfl (fun _ _=>aJ bE rfl rfl (by omega) (aw.ok (E _ hW34) (bp (by omega)))) a (aB 3 rfl (fun w' q=>ld bz rfl (Wk.aE q (bu.get (i:=2) (E _ hW34) (by omega)))) a (aB 4 rfl (fun _ _=>cI rfl rfl) a (bd 5 rfl (aH H.rb) a (aB 6 rfl (fun _ _=>nc rfl) a ?_)))))))
 refine aB 7 rfl (fun _ _=>fa iu rfl) a (aB 8 rfl (fun w' q=>ld il rfl (Wk.aE q ((aQ (G.wk hE34x).cells).trans rfl))) a (aB 9 rfl (fun _ _=>nc rfl) a (aB 10 rfl (fun _ _=>fa jZ rfl) a (aB 11 rfl (fun w' q=>ld kU rfl (Wk.aE q (Wk.aE hE34x aO))) a (aB 12 rfl (fun _ _=>ba vo rfl rfl) a (aB 13 rfl (fun _ _=>mv) a (aB 14 rfl (fun _ _=>bZ (ps:= [(0,bq x),(1,ae 2),(2,.bool (decide (r.getD 2 []= [89]))),(3,ae (F.rules.length)),(4,ae ((cJ (r.getD 3 []) 1024).1))]) (L:= [bq x,ae 2,.bool (decide (r.getD 2 []= [89])),ae (F.rules.length),ae ((cJ (r.getD 3 []) 1024).1)]) BD rfl (rfl)) a ?_)))))))
 refine he 15 rfl (by kernel_rfl) (fT mW fun b8 w8 hb8 ac bf=> ?_)
 have hz8:=ac.size
 have hz11:=a.size
 have br:(fun w'=>Wk O w') w8:=a.trans ac.md
 refine ⟨br,?_⟩
 refine he 16 rfl (by kernel_rfl) (gj lU rfl rfl rfl rfl bf (by decide) fun w11 aL a9=> ?_)
 have aa:Wk w w11:=(hE34x.trans (a.trans ac.md)).trans' aL (fun k hk h=>by have :=hE34x.size; omega)
 have aP:w11.heap[b8]? =some (.cells [bq x,ae 2,.bool (decide (r.getD 2 []= [89])),ae (F.rules.length),ae n].toArray 129 (0,0)):=by rw [hn0]; exact a9
 have aN:w.heap.size≤b8:=by have :=hE34x.size; omega
 have bs:(fun w'=>Wk O w') w11:=(a.trans ac.md).trans' aL (fun k hk h=>by omega)
 refine ⟨bs,?_⟩
 refine hn (by kernel_rfl) (tn (al _ _ ?_))
 refine c7 (fun Y I=>(I.heap[b8]? =some (.cells [bq x,.int .i64 ((if r.getD 0 []=bQ then 2 else 1:Nat):Nat),.bool (decide (r.getD 2 []= [89])),ae (F.rules.length),ae n].toArray 129 (0,0)))∧(Wk w I)∧(w.heap.size≤b8)∧(Y 0=aH H.rb)∧(Y 1= .slice A r.length C)∧(Y 5=bq x)∧(Y 7=ae n)∧(Y 8=aH b8)) ?_ ?_
 refine U (fun _ am=>(ag (.slice A r.length C) (p (aJ bE rfl rfl (by omega) (aw.ok (E _ (M.trans aa)) (bp (by omega)))) (p (ld bz rfl (bu.get (i:=0) (E _ (M.trans aa)) (by omega))) (p (cI rfl rfl) (au ((am _ _ ?_))))))))
 refine cd rfl (fun ax=> ?_) (fun ax=> ?_)
 exact rg rfl (p (fa qv rfl) (e (cj fV rfl rfl (v:=ae 1) rfl aP (by show _ < 5; omega) fun w13 bk bb=>au ((⟨((by rw [if_neg (show ¬r.getD 0 []=bQ from fun h=>by have h2:r.getD 0 []=dQ:=ax; rw [h2] at h; exact absurd h (by decide))]; exact bb)),((aa.trans' bk (fun k hk h=>by omega))),aN,rfl,rfl,rfl,(by rw [hn0]; rfl),rfl⟩)))))
 exact az (tn (⟨((by rw [if_pos (aD.resolve_left ax)]; exact aP)),aa,aN,rfl,rfl,rfl,(by rw [hn0]; rfl),rfl⟩))
 rintro Y I ⟨bA,ab,b6,bR,bS,bT,bU,bV⟩
 refine fx 0 bR (fx 1 bS (fx 5 bT (fx 7 bU (fx 8 bV ?_))))
 have hF13:=hF.wk ab
 have hR13:=G.wk ab
 have aT:¬(V.v11.ownBlock=some H.rb):=cw hF13.dp hR13.cells (by decide)
 have bJ:¬(V.v11.ownBlock=some H.fb):=cw hF13.dp hF13.cells (by decide)
 have bC:¬(V.v11.ownBlock=some b8):=fun h=>by have :=(cG hF.dp h).2; omega
 refine sq (fun _ am=> ?_)
 have hS14:(fun w'=>Md (fun k=>V.v11.ownBlock=some k) I w') I.drew:=(Md.refl _ _).drew
 refine dH (fun w'=>Md (fun k=>V.v11.ownBlock=some k) I w') 16 rfl wide hS14 (a4 0 rfl (aH H.rb) hS14 (a6 1 rfl (fun _=>nc rfl) (fun _=>hS14) (a6 2 rfl (fun _=>fa iu rfl) (fun _=>hS14) (cT 3 rfl (fun w' q=>ld il rfl (Md.aE q ((aQ hR13.cells).trans rfl) aT)) hS14 (a4 4 rfl (aH H.rb) hS14 (a6 5 rfl (fun _=>nc rfl) (fun _=>hS14) (a6 6 rfl (fun _=>fa iu rfl) (fun _=>hS14) ?_)))))))
 refine cT 7 rfl (fun w' q=>ld il rfl (Md.aE q ((aQ hR13.cells).trans rfl) aT)) hS14 (a6 8 rfl (fun _=>nc rfl) (fun _=>hS14) (a6 9 rfl (fun _=>fa k5 rfl) (fun _=>hS14) (cT 10 rfl (fun w' q=>ld lM rfl (Md.aE q ((aQ hF13.cells).trans rfl) bJ)) hS14 (cT 11 rfl (fun w' q=>dB m6 rfl (rfl) (fun j b5=>bG.c8 ⟨_,Md.aA q bA bC⟩ j)) hS14 (fE 12 rfl (by kernel_rfl) (im Bt rfl rfl rfl fun b1 w83 b3 bl bh=> ?_))))))
 have hE83:=ff bl.md
 have hF14:=hF13.wk hE83
 have hR14x:=hR13.wk hE83
 have hz83:=(ab.trans hE83).size
 have aM:(fun w'=>Md (fun k=>V.v11.ownBlock=some k) I w') w83:=Md.mono hE83 (fun _ _ h=>h.elim)
 refine ⟨aM,?_⟩
 refine fE 13 rfl (by kernel_rfl) (ap Bt (hF14.dp) rfl (by omega) rfl (aw.cU bh) (rfl) (rfl) (by omega) (by omega) fun aW w84 aV Z hz84 b4=> ?_)
 have hR15:=hR14x.own hF14.dp Z (by decide)
 have hc15:=Z.aA hF14.cells (cw hF14.dp hF14.cells (by decide))
 have bK:World.ownsRow w84 w1.heap.size 129 5 aW (F.a3++ [(⟨x,(if r.getD 0 []=bQ then 2 else 1:Nat),(decide (r.getD 2 []= [89])),F.rules.length,n⟩:bX)]).length (lZ (F.a3++ [(⟨x,(if r.getD 0 []=bQ then 2 else 1:Nat),(decide (r.getD 2 []= [89])),F.rules.length,n⟩:bX)])):=by rw [show lZ (F.a3++ [(⟨x,(if r.getD 0 []=bQ then 2 else 1:Nat),(decide (r.getD 2 []= [89])),F.rules.length,n⟩:bX)])=lZ F.a3++jz (⟨x,(if r.getD 0 []=bQ then 2 else 1:Nat),(decide (r.getD 2 []= [89])),F.rules.length,n⟩:bX) from by simp [lZ],List.length_append]; exact aV
 have bt:Wk w1 w84:=(M.trans (ab.trans hE83)).trans' Z (fun k hk h=>by have :=(cG hF14.dp h).1; omega)
 have ar:(fun w'=>Md (fun k=>V.v11.ownBlock=some k) I w') w84:=aM.trans' Z (fun _ _ h=>h)
 refine ⟨ar,?_⟩
 refine a6 14 rfl (fun _=>nc rfl) (fun _=>ar) (a6 15 rfl (fun _=>fa k5 rfl) (fun _=>ar) (cE 16 rfl (by kernel_rfl) (by kernel_rfl) (cj FI rfl rfl (v:=aW) (dU aV) hc15 (by show _ < 13; omega) fun w9 hM9 bi=> ?_)))
 have hF16:=dz.r5 (x:=(⟨x,(if r.getD 0 []=bQ then 2 else 1:Nat),(decide (r.getD 2 []= [89])),F.rules.length,n⟩:bX)) hF14 Z bK hM9 bi
 have hR16:=hR15.kA hc15 hM9
 have bv:Wk w1 w9:=bt.trans' hM9 (fun k hk h=>by omega)
 refine dG (by kernel_rfl) ?_
 refine tn (am _ _ (U (fun _ aY=>(ag (aH H.rb) (ag (.slice A r.length C) (ag (ae n) (e (cl sD (tM w1 H {F with a3:=F.a3++ [(⟨x,(if r.getD 0 []=bQ then 2 else 1:Nat),(decide (r.getD 2 []= [89])),F.rules.length,n⟩:bX)]} k ln seen r aK A C n w9 bj ⟨_,vh,hF16,hR16,⟨by simp only [List.length_append,List.length_singleton]; omega,hbs,hB.row,hB.kd⟩,bv,hkl⟩ hT (.inr hr) (by omega) (fun _ _=>by simp only [List.length_append,List.length_singleton]; omega)) rfl fun cb cc bo=>p ak ?_))))))))
 exact au ((aY _ _ (rt (f1 rfl rfl (dS.eq bo (EJ hr bF bI ah aF hnx (by omega)))))))
theorem Hv (w1:World) (H:eb) (F:aI) (k ln:Nat) (seen r:List Tx) (ai:Nat) (q:Option Addr) (A:Nat) (w:World) (aB:GS w1 H) (ah:iY w1 w H F k ln seen) (hT:Tg w1 ai 9 r.length (.slice q r.length A) (r.map str)) (hrl:∀ x∈r,x.length≤70000) (bw:F.bN.length+F.aliases.length+F.a3.length+F.rules.length+(H.rows.drop k).length < 70000) (hw:r.length=width (r.getD 0 [])) (bG:width (r.getD 0 [])≠0):
 aU Tryz.prog 43 (List.toArray [aH H.rb,.slice q r.length A]) w (dS w1 H seen (bA H.eof F seen (H.rows.drop k) ln r)):=by
 have hS0:=ah
 obtain ⟨V,vh,hF,j,hB,a,hkl⟩:=ah
 have C:∀ w,Wk w1 w→bu w.heap q r:=fun w h=>(hT.wk h).bH.2
 have hlo:=j.lo
 have hflo:=hF.lo
 have hbl:=hB.len
 have hbs:=hB.sl
 have hrbl:=(Array.getElem?_eq_some_iff.1 j.cells).1
 have hrl0:0 < r.length:=by omega
 have hr1:2≤r.length→(r.getD 1 []).length≤70000:=fun h=>hrl _ (c6 (by omega))
 refine enter Tryz.func43 rfl Tryz.ntmps43 rfl ?_
 refine U (fun _ aY=>(aj (((aY _ _ (U (fun _ a0=>(ag (.slice q r.length A) ?_))))))))
 refine p (aJ bE rfl rfl (by omega) (aw.ok (C _ a) (bp (by omega)))) (p (ld bz rfl (bu.get (i:=0) (C _ a) (by omega))) (aj (((a0 _ _ (U (fun _ a2=>(p mv ?_))))))))
 refine e (cl sB (tQ (r.getD 0 []) w) rfl fun b5 Y bl=> ?_)
 obtain ⟨rfl,bK⟩:=bl
 subst bK
 refine aj (((a2 _ _ (sq (fun _ a7=>U (fun _ a8=>(p mv (p (ge rfl rfl) ?_))))))))
 refine au ((a8 _ _ (cd rfl (fun aL=> ?_) (fun aL=> ?_))))
 have hsp:=nK.1 aL
 have G:r.length=2:=by rw [hw,B8 hsp]
 have hr1:=hr1 (by omega)
 refine U (fun _ ar=>(ag (aH H.rb) (ag (.slice q r.length A) (p (aJ bE rfl rfl (by omega) (aw.ok (C _ a) (bp (by omega)))) (p (ld bz rfl (bu.get (i:=1) (C _ a) (by omega))) (e (cl xL (zw w1.heap.size H F V k ln seen vh (r.getD 1 []) Y hF j hB.kd (by omega) (by omega)) rfl fun b6 cg bm=> ?_)))))))
 obtain ⟨⟨x,bX,rfl,hfr⟩,hE32⟩:=bm
 have hW32:=a.trans hE32
 refine p mv (p (xt rfl rfl) (p (xt rfl rfl) (p ak (aj (((ar _ _ (sq (fun _ av=> ?_)))))))))
 refine rg rfl (ag (aH H.rb) (p (nc rfl) (p (fa iu rfl) (p (ld il rfl ((aQ (j.wk hE32).cells).trans rfl)) (p mv (p mv (p (nc rfl) ?_)))))))
 refine p (fa qu rfl) (p (iw pL rfl rfl (by rw [vc hsp]; have :=vd hsp; omega)) (e (cj fV rfl rfl (v:=bq x) rfl (hF.wk hE32).cells (by show 0 +3 +(lr (r.getD 0 [])).toNat*1 < 13; rw [vc hsp]; have :=vd hsp; omega) fun w5 aC a9=> ?_)))
 have hset:=HA (F:=F) (V:=V) (x:=x) (o:=0 +3 +(lr (r.getD 0 [])).toNat*1) hF.ef (vd hsp) (by rw [vc hsp]; omega)
 have ba:w5.heap[H.fb]? =some (.cells (j0 {F with sp:=F.sp.set (cO.idxOf (r.getD 0 [])) x} V).toArray 120 (0,0)):=by rw [← hset]; exact a9
 have hF5:=(hF.wk hE32).put (F':= {F with sp:=F.sp.set (cO.idxOf (r.getD 0 [])) x}) aC ba rfl rfl rfl rfl (by show (F.sp.set _ _).length=5; rw [List.length_set]; exact hF.ef)
 have hR5:=(j.wk hE32).fb (hF.wk hE32) aC
 have aD:Wk w1 w5:=hW32.trans' aC (fun k hk h=>by omega)
 refine au ((av _ _ (U (fun _ ax=>(p mv (aj (((ax _ _ ?_)))))))))
 refine rt (tr (f1 rfl rfl ?_))
 rcases hfr with ⟨aT,_,rfl⟩ | ⟨aT,hne⟩
 exact ⟨.inl ⟨_,k,ln,(zC hsp).trans (By aT),rfl,⟨V,vh,hF5,hR5,⟨hB.len,hbs,hB.row,hB.kd⟩,aD,hkl⟩⟩,aD⟩
 exact dS.er ((zC hsp).trans (Bx aT)) hne hR5.bM aD
 have bL:r.getD 0 []∉cO:=fun h=>aL (nK.2 h)
 refine az (tn (a7 _ _ (sq (fun _ ar=>U (fun _ av=>(p mv (au ((av _ _ ?_)))))))))
 refine aA (U (fun _ ax=>(p (cI rfl rfl) (aj (((ax _ _ (cd rfl (fun aM=> ?_) (fun aM=> ?_)))))))))
 have h1:r.getD 0 []=eS:=aM
 have G:r.length=2:=by rw [hw,h1]; rfl
 have hr1:=hr1 (by omega)
 refine U (fun _ ay=>(ag (aH H.rb) (ag (.slice q r.length A) (e (cl Em (Hy w1 H F k ln seen r ai q A Y hS0 (hT.wk a) G hrl) rfl fun b7 ch bo=>aj (((ay _ _ ?_))))))))
 exact rt (br (tr (f1 rfl rfl (dS.eq bo (HE h1)))))
 have bO:¬r.getD 0 []=eS:=aM
 refine U (fun _ ay=>(p (cI rfl rfl) (aj (((ay _ _ (cd rfl (fun aN=> ?_) (fun aN=> ?_))))))))
 have h2:r.getD 0 []=e8:=aN
 have G:r.length=2:=by rw [hw,h2]; rfl
 have hr1:=hr1 (by omega)
 refine U (fun _ ap=>(ag (.slice q r.length A) (p (aJ bE rfl rfl (by omega) (aw.ok (C _ a) (bp (by omega)))) (p (ld bz rfl (bu.get (i:=1) (C _ a) (by omega))) (e (cl om (oT (r.getD 1 []) Y (by omega)) rfl fun b8 w56 bs=> ?_))))))
 obtain ⟨rfl,hE56⟩:=bs
 have hW56:=a.trans hE56
 refine aj (((ap _ _ (sq (fun _ al=>U (fun _ Z=>(p mv (p (no rfl) ?_))))))))
 refine au ((Z _ _ (cb rfl (fun aO=> ?_) (fun aO=> ?_))))
 refine U (fun _ E=>(aj (((E _ _ (rt (tr (br ?_))))))))
 exact tr (f1 rfl rfl (dS.er ((zB h2).trans (Bg (by simpa using aO))) (by decide) (j.wk hE56).bM hW56))
 refine az (tn (al _ _ (sq (fun _ E=> ?_))))
 have hS14:(fun w'=>Wk w56 w') w56.drew:=(Md.refl _ _).drew
 refine dH (fun w'=>Wk w56 w') 9 rfl wide hS14 (a4 0 rfl (aH H.rb) hS14 (a6 1 rfl (fun _=>nc rfl) (fun _=>hS14) (a6 2 rfl (fun _=>fa iu rfl) (fun _=>hS14) (cT 3 rfl (fun w' ah=>ld il rfl (Wk.aE ah ((aQ (j.wk hE56).cells).trans rfl))) hS14 (a4 4 rfl (.slice q r.length A) hS14 (a6 5 rfl (fun _=>aJ bE rfl rfl (by omega) (aw.ok (C _ hW56) (bp (by omega)))) (fun _=>hS14) (cT 6 rfl (fun w' ah=>ld bz rfl (Wk.aE ah (bu.get (i:=1) (C _ hW56) (by omega)))) hS14 ?_)))))))
 refine a6 7 rfl (fun _=>nc rfl) (fun _=>hS14) (a6 8 rfl (fun _=>fa GV rfl) (fun _=>hS14) (cE 9 rfl (by kernel_rfl) (by kernel_rfl) (cj iN rfl rfl (v:=str (r.getD 1 [])) rfl ((hF.wk hE56).wk hS14).cells (by show _ < 13; omega) fun w9 hM9 an=> ?_)))
 have hF9:=((hF.wk hE56).wk hS14).put (F':= {F with mC:=r.getD 1 []}) hM9 an rfl rfl rfl rfl hF.ef
 have hR9:=((j.wk hE56).wk hS14).fb ((hF.wk hE56).wk hS14) hM9
 have M:Wk w1 w9:=(hW56.trans hS14).trans' hM9 (fun k hk h=>by omega)
 refine dG (by kernel_rfl) ?_
 refine tn (E _ _ (U (fun _ I=>(aj (((I _ _ (rt (br ?_)))))))))
 exact tr (f1 rfl rfl (⟨.inl ⟨_,k,ln,(zB h2).trans (Bi (by simpa using aO)),rfl,⟨V,vh,hF9,hR9,⟨hB.len,hbs,hB.row,hB.kd⟩,M,hkl⟩⟩,M⟩))
 have bP:¬r.getD 0 []=e8:=aN
 refine U (fun _ ap=>(p (cI rfl rfl) (aj (((ap _ _ (cd rfl (fun aP=> ?_) (fun aP=> ?_))))))))
 have h3:r.getD 0 []=fu:=aP
 have G:r.length=2:=by rw [hw,h3]; rfl
 have hr1:=hr1 (by omega)
 refine U (fun _ al=>(ag (.slice q r.length A) (p (aJ bE rfl rfl (by omega) (aw.ok (C _ a) (bp (by omega)))) (p (ld bz rfl (bu.get (i:=1) (C _ a) (by omega))) (e (cl En (KB (r.getD 1 []) Y (by omega)) rfl fun b9 ci bt=> ?_))))))
 obtain ⟨rfl,ac⟩:=bt
 have hW74:=a.trans ac
 refine p mv (p (xt rfl rfl) (p (xt rfl rfl) (p ak (aj (((al _ _ (sq (fun _ Z=> ?_)))))))))
 refine rg rfl (ag (aH H.rb) (p (nc rfl) (p (fa iu rfl) (p (ld il rfl ((aQ (j.wk ac).cells).trans rfl)) (p mv (p (nc rfl) (p (fa GW rfl) ?_)))))))
 refine e (cj iN rfl rfl (v:=str (letE (r.getD 1 [])).1) rfl (hF.wk ac).cells (by show _ < 13; omega) fun w9 hM9 an=> ?_)
 have hF9:=(hF.wk ac).put (F':= {F with tr:=(letE (r.getD 1 [])).1}) hM9 an rfl rfl rfl rfl hF.ef
 have hR9:=(j.wk ac).fb (hF.wk ac) hM9
 have M:Wk w1 w9:=hW74.trans' hM9 (fun k hk h=>by omega)
 refine au ((Z _ _ (U (fun _ E=>(p mv (aj (((E _ _ ?_)))))))))
 refine rt (br (tr (f1 rfl rfl ?_)))
 by_cases h:(letE (r.getD 1 [])).2=0
 exact ⟨.inl ⟨_,k,ln,(zD h3).trans (BP h),by rw [h]; rfl,⟨V,vh,hF9,hR9,⟨hB.len,hbs,hB.row,hB.kd⟩,M,hkl⟩⟩,M⟩
 exact dS.er ((zD h3).trans (BO h)) h hR9.bM M
 have bR:¬r.getD 0 []=fu:=aP
 refine U (fun _ al=>(p (cI rfl rfl) (aj (((al _ _ (cd rfl (fun aR=> ?_) (fun aR=> ?_))))))))
 have h4:r.getD 0 []=gz:=aR
 have G:r.length=2:=by rw [hw,h4]; rfl
 have hr1:=hr1 (by omega)
 refine U (fun _ Z=>(ag (.slice q r.length A) (p (aJ bE rfl rfl (by omega) (aw.ok (C _ a) (bp (by omega)))) (p (ld bz rfl (bu.get (i:=1) (C _ a) (by omega))) (e (cl mB (mR (r.getD 1 []) 64 Y (by omega) (by omega)) rfl fun ca ck bv=> ?_))))))
 obtain ⟨rfl,O⟩:=bv
 have hW91:=a.trans O
 refine p mv (p (xt rfl rfl) (p (xt rfl rfl) (p ak (aj (((Z _ _ (sq (fun _ E=> ?_)))))))))
 refine U (fun _ I=>(p mv (p (bB rfl rfl) (p mv (gs (t:=96) rfl (fun aW=> ?_) (fun aW=> ?_))))))
 refine sk rfl rfl rfl rfl (sk rfl rfl rfl rfl (p (bg rfl) (au ((I _ _ (ct rfl (U (fun _ J=> ?_))))))))
 refine aj (((J _ _ (rt (tr (br (tr (f1 rfl rfl ?_))))))))
 exact dS.er ((tS h4).trans (Ak (lk aW).1)) (by decide) (j.wk O).bM hW91
 refine pg rfl rfl rfl mv (pg rfl rfl rfl (bf rfl rfl) (p (a5 rfl) (au ((I _ _ (cd rfl (fun bD=> ?_) (fun bD=> ?_)))))))
 refine U (fun _ J=>(aj (((J _ _ (rt (tr (br ?_))))))))
 exact tr (f1 rfl rfl (dS.er ((tS h4).trans (Al (j9 (by omega)) (by omega))) (by decide) (j.wk O).bM hW91))
 refine az (tn (E _ _ (U (fun _ J=>(ag (aH H.rb) (p (nc rfl) (p (fa iu rfl) (p (ld il rfl ((aQ (j.wk O).cells).trans rfl)) ?_))))))))
 refine p mv (p (nc rfl) (p (fa GX rfl) (e (cj fV rfl rfl (v:=ae ((cJ (r.getD 1 []) 64).1)) rfl (hF.wk O).cells (by show _ < 13; omega) fun w9 hM9 an=> ?_))))
 have hF9:=(hF.wk O).put (F':= {F with least:=(cJ (r.getD 1 []) 64).1}) hM9 an rfl rfl rfl rfl hF.ef
 have hR9:=(j.wk O).fb (hF.wk O) hM9
 have M:Wk w1 w9:=hW91.trans' hM9 (fun k hk h=>by omega)
 refine au ((J _ _ (U (fun _ aa=>(aj (((aa _ _ (rt ?_)))))))))
 exact br (tr (f1 rfl rfl (⟨.inl ⟨_,k,ln,(tS h4).trans (Am (j9 (by omega)) (by omega)),rfl,⟨V,vh,hF9,hR9,⟨hB.len,hbs,hB.row,hB.kd⟩,M,hkl⟩⟩,M⟩)))
 have bS:¬r.getD 0 []=gz:=aR
 refine U (fun _ Z=>(p (cI rfl rfl) (aj (((Z _ _ (cd rfl (fun aF=> ?_) (fun aF=> ?_))))))))
 have h5:r.getD 0 []=dE:=aF
 have G:r.length=2:=by rw [hw,h5]; rfl
 have hr1:=hr1 (by omega)
 refine U (fun _ E=>(ag (.slice q r.length A) (p (aJ bE rfl rfl (by omega) (aw.ok (C _ a) (bp (by omega)))) (p (ld bz rfl (bu.get (i:=1) (C _ a) (by omega))) (e (cl mB (mR (r.getD 1 []) 256 Y (by omega) (by omega)) rfl fun bY w113 bb=> ?_))))))
 obtain ⟨rfl,hE113⟩:=bb
 have hW113:=a.trans hE113
 have hnle:=l7 (r.getD 1 []) 256
 refine p mv (p (xt rfl rfl) (p (xt rfl rfl) (p ak (aj (((E _ _ (sq (fun _ I=> ?_)))))))))
 refine U (fun _ J=>(p mv (p (bB rfl rfl) (au ((J _ _ (cd rfl (fun bx=> ?_) (fun bx=> ?_))))))))
 refine U (fun _ aa=>(p mv (aj (((aa _ _ (rt (tr ?_))))))))
 refine br (tr (f1 rfl rfl ?_))
 have h13:=lk (s:=r.getD 1 []) (most:=256) (by omega)
 show dS w1 H seen _ (.int .i64 (cJ (r.getD 1 []) 256).2) w113
 rw [h13.2]
 exact dS.er ((zA h5).trans (A0 h13.1)) (by decide) (j.wk hE113).bM hW113
 refine az (tn (I _ _ (U (fun _ aa=>(ag (aH H.rb) (ag (.slice q r.length A) (p mv (e (cl sD (tM w1 H F k ln seen r ai q A (cJ (r.getD 1 []) 256).1 w113 aB ⟨V,vh,hF.wk hE113,j.wk hE113,hB,hW113,hkl⟩ hT (.inl G) (by have :=hnle (by omega); omega) (fun h _=>absurd h5 h)) rfl fun bZ cc bc=> ?_)))))))))
 exact aj (((aa _ _ (rt (br (tr (f1 rfl rfl (dS.eq bc ((zA h5).trans (Ks G h5 (j9 (by omega))))))))))))
 have bT:¬r.getD 0 []=dE:=aF
 refine U (fun _ E=>(p (cI rfl rfl) (aj (((E _ _ (cd rfl (fun aG=> ?_) (fun aG=> ?_))))))))
 have ab:r.getD 0 []=db:=aG
 have G:r.length=2:=by rw [hw,ab]; rfl
 have hr1:=hr1 (by omega)
 refine U (fun _ I=>(ag (aH H.rb) (e (cl sw (tR w1.heap.size H k ln seen vh dQ Y j (by omega)) rfl fun b0 bV bd=> ?_))))
 obtain ⟨rfl,bI⟩:=bd
 subst bI
 refine aj (((I _ _ (U (fun _ J=>(ag (aH H.rb) (e (cl sw (tR w1.heap.size H k ln seen vh bQ bV j (by omega)) rfl fun b1 bW bh=> ?_))))))))
 obtain ⟨rfl,bJ⟩:=bh
 subst bJ
 refine aj (((J _ _ (sq (fun _ aa=>U (fun _ aV=>(p mv (p mv ?_))))))))
 refine gb (t:=130) rfl (fun aS=> ?_) (fun aS=> ?_)
 refine sk rfl rfl rfl rfl (p (bg rfl) (au ((aV _ _ (ct rfl (U (fun _ am=>(p ak ?_))))))))
 exact au ((am _ _ (rt (tr (br (tr (f1 rfl rfl (dS.er ((qH ab).trans (rZ (.inl (of_decide_eq_true aS)))) (by decide) j.bM a))))))))
 refine pg rfl rfl rfl mv (p (a5 rfl) (au ((aV _ _ (cb rfl (fun aK=> ?_) (fun aK=> ?_))))))
 refine U (fun _ am=>(aj (((am _ _ (rt (tr (br ?_))))))))
 exact tr (f1 rfl rfl (dS.er ((qH ab).trans (rZ (.inr (of_decide_eq_true aK)))) (by decide) j.bM a))
 have aX:¬(dQ∈seen∨bQ∈seen):=fun h=>h.elim (of_decide_eq_false aS) (of_decide_eq_false aK)
 refine az (tn (aa _ _ (U (fun _ am=>(ag (.slice q r.length A) (p (aJ bE rfl rfl (by omega) (aw.ok (C _ a) (bp (by omega)))) (p (ld bz rfl (bu.get (i:=1) (C _ a) (by omega))) (e (cl mB (mR (r.getD 1 []) 1024 bW (by omega) (by omega)) rfl fun b2 w137 bi=> ?_)))))))))
 obtain ⟨rfl,ao⟩:=bi
 have hW137:=a.trans ao
 have hnle:=l7 (r.getD 1 []) 1024
 refine p mv (p (xt rfl rfl) (p (xt rfl rfl) (p ak (aj (((am _ _ (sq (fun _ aZ=> ?_)))))))))
 refine U (fun _ a1=>(p mv (p (bB rfl rfl) (au ((a1 _ _ (cd rfl (fun bC=> ?_) (fun bC=> ?_))))))))
 refine U (fun _ aq=>(p mv (aj (((aq _ _ (rt (tr ?_))))))))
 refine br (tr (f1 rfl rfl ?_))
 have h13:=lk (s:=r.getD 1 []) (most:=1024) (by omega)
 show dS w1 H seen _ (.int .i64 (cJ (r.getD 1 []) 1024).2) w137
 rw [h13.2]
 exact dS.er ((qH ab).trans (wi aX h13.1)) (by decide) (j.wk ao).bM hW137
 refine az (tn (aZ _ _ (U (fun _ aq=>(ag (aH H.rb) (ag (.slice q r.length A) (p mv (e (cl sD (tM w1 H F k ln seen r ai q A (cJ (r.getD 1 []) 1024).1 w137 aB ⟨V,vh,hF.wk ao,j.wk ao,hB,hW137,hkl⟩ hT (.inl G) (by have :=hnle (by omega); omega) (fun _ h=>absurd ab h)) rfl fun b3 ce bj=> ?_)))))))))
 exact aj (((aq _ _ (rt (br (tr (f1 rfl rfl (dS.eq bj ((qH ab).trans (CM G ab aX (j9 (by omega))))))))))))
 have bU:¬r.getD 0 []=db:=aG
 have hpf:=J0 bG bL bO bP bR bS bT bU
 have bF:r.length=4:=by rw [hw,B9 hpf]
 refine az (bn (tn (ar _ _ (U (fun _ I=>(ag (aH H.rb) (ag (.slice q r.length A) (e (cl Eo (Hf w1 H F k ln seen r ai q A Y aB hS0 hT hrl bw bF hpf) rfl fun b4 cf bk=> ?_)))))))))
 exact aj (((I _ _ (rt (f1 rfl rfl (dS.eq bk (HD hpf)))))))
end Go.Hb.vP
end
