/-
  Walks and plain laws that the law rests on, laid together. No conditions but those that each theorem names.
-/
import Derived.Test.YtffmhpaepdkabaaGreatDoorMnDeriveMeasures8
set_option linter.unusedVariables false
set_option maxRecDepth 20000
set_option maxHeartbeats 1000000
open Bool renaming noConfusion→ee
open Go.Value renaming bool→bQ
open List renaming nil_append→oq,toArray→bf
open Go.Proofs.Tryz

section
namespace Go.Hb
open Go.Hb.dT
open Go.Proofs
open Go.Hb.fj Go.Hb.fX Go.Hb.j9 Go.Hb.gX Go.Hb.jF Go.Hb.kr Go.Hb.lf Go.Hb.lH Go.Hb.js Go.Hb.kN Go.Hb.mV Go.Hb.ri Go.Hb.rj
theorem U6 {lim:Int} (G:lim≤1048576):∀ (L a:List bV),a.length≤dJ a→(∀ d∈L,1≤d.jx.length)→(dJ (fy 1152921504606846976 lim a L):Int)≤lim→fy 1152921504606846976 lim a L=a++L:=by
 intro L
 induction L with
 | nil=>intro a _ _ _; rw [List.append_nil]; rfl
 | cons d L C=>
   intro a E q i
   by_cases h:kE 1152921504606846976 lim a=true
   · rw [yq h] at i
     have h2:=of_decide_eq_true h
     omega
   · have e:fy 1152921504606846976 lim a (d::L)=fy 1152921504606846976 lim (a++ [d]) L:=by rw [fy,List.foldl_cons,qI,if_neg h]; rfl
     rw [e] at i ⊢
     rw [C (a++ [d]) (by rw [xm,List.length_append,List.length_singleton]; have :=q d (List.mem_cons_self ..); omega) (fun x A=>q x<|List.mem_cons_of_mem _ A) i,List.append_assoc]; rfl
theorem I6 {m l:Int} {F:aR} {xs:List bD} {i n:Nat} (h:i≤n):dJ (fy m l []<|eN F xs i)≤dJ (eN F xs n):=by
 obtain ⟨k,hk⟩:=U5 (most:=m) (limit:=l) (eN F xs i) []
 rw [hk,oq]
 refine Nat.le_trans (Aj<|List.take_prefix _ _) ?_
 rcases Nat.lt_or_eq_of_le h with h | rfl
 · obtain ⟨tl,a⟩:=E3 (F:=F) (xs:=xs) h
   rw [a,Ai]; omega
 · exact Nat.le_refl _
theorem Xk (B tb fb:Nat) (V:ej) (ve:Value) (F:aR) (xs:List bD) (most:Int) (w:World) (aX:fY w B tb fb V ve F xs) (an:eF F xs):
 bm prog 23 (bf [aQ tb,.int .i64 most]) w (fun v w'=>v= .tuple #[.int .i64 (l9 (eN F xs xs.length) most).1,.int .i64 (l9 (eN F xs xs.length) most).2.1,.bool (l9 (eN F xs xs.length) most).2.2]∧Wk w w'):=by
 have bg:=an.xl
 refine enter func23 aa ntmps23 aa<|ag fun aG=>p aA<|p aA<|aw<|aG<|aB fun aJ=>ag fun aK=>ak (.int .i64 most)<|p (lt aa aa)<|nl<|aK<|cd aa (fun az=> ?_) fun az=> ?_
 exact ag fun M=>p aA<|p aA<|aw<|M<|rt<|tr<|f3 aa aa aa aa<|⟨by rw [qH (.inl az)]; rfl,Md.refl _ _⟩
 refine aM<|aJ ?_
 refine ed (fun ap ah=>(ah=w)∧(ap 0=aQ tb)∧(ap 1= .int .i64 (min most 1048576))) ?_ ?_
 refine ag fun M=>ak (.int .i64 most)<|p (gt aa aa)<|nl<|M<|cd aa (fun a1=> ?_) fun a1=> ?_
 exact rg aa<|p aA<|nl<|tn<|⟨aa,aa,by first | rfl | exact iv ab⟩
 exact aM<|tn<|⟨aa,aa,by first | rfl | exact iv ab⟩
 rintro ap ah ⟨Z,a5,a6⟩
 refine fx 0 a5<|fx 1 a6<|ag fun M=>ak (.int .i64<|min most 1048576)<|p (cQ (ps:= [(3,.int .i64 1152921504606846976),(4,.int .i64 (min most 1048576))]) (L:= [.bool false,.bool false,.string ⟨⟨[]⟩⟩,.int .i64 1152921504606846976,.int .i64 (min most 1048576),.int .i64 0,.int .i64 0,.slice none 0 0]) Yd aa<|aa)<|e<|oB aa fun A aF bd U aW=> ?_
 have bi:ah.heap.size=w.heap.size:=by rw [Z]
 have aY:fY ah B tb fb V ve F xs:=by rw [Z]; exact aX
 have ao:hZ aF (fun q=>q=A) w.heap.size A false 1152921504606846976 (min most 1048576) []:=⟨ab,⟨.slice none 0 0,aW,by rw [if_neg ee],fun q=>by simp [Value.ownBlock]⟩,rj.Bd.nil⟩
 have ax:=aY.wk U.md
 have bh:=U.size
 refine aw<|M<|aB fun aq=>ag fun aL=>p aA<|nl<|aL<|aH<|lp (fun av ac C=> ∃ (i:Nat) (ae:Nat→Prop),(i≤xs.length)∧(hZ C ae w.heap.size A false 1152921504606846976 (min most 1048576)<|fy 1152921504606846976 (min most 1048576) []<|eN F xs i)∧(Tw (fun q=>q=A) aF ae C)∧(ac 0=aQ tb)∧(ac 1= .int .i64 (min most 1048576))∧(ac 7=aQ A)∧(ac 8=au i)∧(xs.length - i=av)) _ ⟨0,_,ab,ao,(Tw.refl _ _),aa,aa,aa,aa,aa⟩ ?_
 rintro av ac C ⟨i,ae,hi,J,I,a7,a8,a9,bb,rfl⟩
 refine fx 0 a7<|fx 1 a8<|fx 7 a9<|fx 8 bb<|aB fun aN=>ag fun ar=>ak (au i)<|ak (aQ tb)<|p (nc aa)<|p (fa uY aa)<|p (ld uv aa<|(rH ax ao I.md).DK.choose_spec.choose_spec)<|p (bK y7 aa aa)<|p (lt aa aa)<|p mv<|gs (t:=23) aa (fun a4=> ?_) fun a4=> ?_
 refine aI aa (aT (aQ A) aa)<|aI aa (nc aa)<|aI aa (fa nO aa)<|aI aa (ld bu aa<|J.aO.2.2.2.2.2)<|aI aa (aT (.int .i64<|min most 1048576) aa)<|aI aa (le aa aa)<|p (bB aa)<|nl<|ar<|cd aa (fun a2=> ?_) fun a2=> ?_
 refine aM<|aN<|aB fun O=>aH<|rg aa<|ak (aQ tb)<|ak (au i)<|ak (aQ A)<|e<|cl P6 (Zd B tb fb V ve F xs w.heap.size A false 1152921504606846976 (min most 1048576) (fy 1152921504606846976 (min most 1048576) []<|eN F xs i) ae (i:Int) C (rH ax ao I.md) an J<|.inr ab) aa fun bk bl aZ=> ?_
 obtain ⟨rfl,aV,ay,a0⟩:=aZ
 rw [qp ab] at ay
 exact nl<|bn<|O<|rg aa<|ak (au i)<|p (bE ((i+1:Nat):Int) aa aa<|bj ab ab)<|p aA<|nl<|tn<|⟨_,ab,i+1,aV,ab,(by rw [z1,tk]; exact ay),(I.trans a0),aa,aa,aa,aa,aa⟩
 refine ext<|ba<|ba<|be<|aq<|aB fun O=>ag fun ai=>ak (aQ A)<|p (nc aa)<|p (fa nO aa)<|p (ld bu aa<|J.aO.2.2.2.2.2)<|ak (.int .i64<|min most 1048576)<|p (gt aa aa)<|nl<|ai<|cd aa (fun Y=> ?_) fun Y=> ?_
 refine ag fun E=>p aA<|p aA<|aw<|E<|rt<|tr<|f3 aa aa aa aa ?_
 have a3:=I6 (m:=1152921504606846976) (l:=min most 1048576) (F:=F) (xs:=xs) hi
 exact ⟨by rw [qH (.inr ab)]; rfl,(by rw [← Z]; exact U.md.trans' I.md (fun q aD h=>by have h:q=A:=h; omega):Wk w C)⟩
 refine aM<|O<|aB fun E=> ?_
 obtain ⟨aP,aS,c3,aU,al,am⟩:=J.aO
 have a:(fun w'=>Wk C w') C.drew:=(Md.refl _ _).drew
 exact bI (fun w'=>Wk C w') aa wide a<|bF 0 aa (aQ A) a<|aC 1 aa (fun _ _=>nc aa) a<|aC 2 aa (fun _ _=>fa qv aa) a<|aC 3 aa (fun w' G=>ld bu aa<|Wk.aO G<|al) a<|bF 4 aa (aQ A) a<|aC 5 aa (fun _ _=>nc aa) a<|aC 6 aa (fun _ _=>fa nO aa) a<|aC 7 aa (fun w' G=>ld bu aa<|Wk.aO G<|am) a<|aC 8 aa (fun _ _=>aA) a<|aC 9 aa (fun _ _=>aA) a<|aC 10 aa (fun _ _=>aA) a<|hn aj<|E<|rt<|f3 aa aa aa aa<|absurd Y ab
 refine aE aa<|aE aa<|aE aa<|aE aa<|aE aa<|aE aa<|p (bp aa)<|nl<|ar<|cf aa<|ext<|ba<|ba<|be<|aq<|aB fun O=> ?_
 refine ag fun ai=>ak (aQ A)<|p (nc aa)<|p (fa nO aa)<|p (ld bu aa<|J.aO.2.2.2.2.2)<|ak (.int .i64<|min most 1048576)<|p (gt aa aa)<|nl<|ai<|cd aa (fun Y=> ?_) fun Y=> ?_
 refine ag fun E=>p aA<|p aA<|aw<|E<|rt<|tr<|f3 aa aa aa aa ?_
 have a3:=I6 (m:=1152921504606846976) (l:=min most 1048576) (F:=F) (xs:=xs) hi
 exact ⟨by rw [qH (.inr ab)]; rfl,(by rw [← Z]; exact U.md.trans' I.md (fun q aD h=>by have h:q=A:=h; omega):Wk w C)⟩
 refine aM<|O<|aB fun E=> ?_
 obtain ⟨aP,aS,c3,aU,al,am⟩:=J.aO
 have a:(fun w'=>Wk C w') C.drew:=(Md.refl _ _).drew
 refine bI (fun w'=>Wk C w') aa wide a<|bF 0 aa (aQ A) a<|aC 1 aa (fun _ _=>nc aa) a<|aC 2 aa (fun _ _=>fa qv aa) a<|aC 3 aa (fun w' G=>ld bu aa<|Wk.aO G<|al) a<|bF 4 aa (aQ A) a<|aC 5 aa (fun _ _=>nc aa) a<|aC 6 aa (fun _ _=>fa nO aa) a<|aC 7 aa (fun w' G=>ld bu aa<|Wk.aO G<|am) a<|aC 8 aa (fun _ _=>aA) a<|aC 9 aa (fun _ _=>aA) a<|aC 10 aa (fun _ _=>aA) a<|hn aj<|E<|rt<|f3 aa aa aa aa ?_
 have bc:=(by rw [← Z]; exact U.md.trans' I.md (fun q aD h=>by have h:q=A:=h; omega):Wk w C)
 obtain rfl :i=xs.length:=ab
 have e:=U6 (lim:=min most 1048576) ab (eN F xs xs.length) [] (Nat.zero_le _) (fun d hd=>(E4 an d hd).1) ab
 rw [oq] at e
 refine ⟨?_,bc.trans a⟩
 show Value.tuple #[au ((fy 1152921504606846976 (min most 1048576) []<|eN F xs xs.length).length),au (dJ<|fy 1152921504606846976 (min most 1048576) []<|eN F xs xs.length),.bool true]=_
 rw [e] at Y ⊢
 rw [yx ab]
end Go.Hb
end
section
namespace Go.Hb
open Go.Hb.dT
open Go.Proofs
open Go.Hb.fj Go.Hb.fX Go.Hb.j9 Go.Hb.gX Go.Hb.jF Go.Hb.kr Go.Hb.lf Go.Hb.lH Go.Hb.js Go.Hb.kN Go.Hb.mV Go.Hb.ri Go.Hb.rj
theorem SG (a s1:Tx) (a0 q C d0 i A E d1:Int) (w:World):(binOp .eql 41 (.agg [str a,.int .i64 a0,.int .i64 q,.int .i64 C,.int .i64 d0].toArray)<|.agg [str s1,.int .i64 i,.int .i64 A,.int .i64 E,.int .i64 d1].toArray).run prog w= .ok (.bool<|decide (a=s1∧a0=i∧q=A∧C=E∧d0=d1)) w:=by
 have I:=underlying9
 have J:=underlying3
 have G:prog.underlying 41=some (.struct<|prog.fieldsOf 41):=aj
 have hp:prog.stoodInHeld 41=false :=aj
 rw [run_eql_struct,show (10000:Nat)=9999 +1 from rfl,run_equalIn_agg w 9999 41 _ _ G hp]
 simp only [Program.fieldsOf,underlying41]
 have hs:(str a=str s1)=(a=s1):=by unfold str; simp
 unfold str at*
 go_simp
 by_cases h1:a=s1 <;> by_cases h2:a0=i <;> by_cases h3:q=A <;> by_cases h4:C=E <;> by_cases h5:d0=d1 <;> simp [h1,h2,h3,h4,h5]
section
variable {N:Fm} {σ:Nat→Value} {w:World} {dst:Option Nat} {ty:TypeId} {pos :String} {af:Array Edge} {g:Option (Nat×Bool)} {x y:Operand}
theorem SF {M:TypeId} {E s1:Tx} {a0 i A d0 a q C d1:Int} (I:ev N σ x= .agg [str E,.int .i64 a0,.int .i64 i,.int .i64 A,.int .i64 d0].toArray) (J:ev N σ y= .agg [str s1,.int .i64 a,.int .i64 q,.int .i64 C,.int .i64 d1].toArray):
 (execOp (ev N σ) ⟨dst,.binOp .eql 41 x y M,ty,pos,af,g⟩).run prog w= .ok (.value<|.bool<|decide (E=s1∧a0=a∧i=q∧A=C∧d0=d1)) w:=by
 have hm:prog.eqGuardType prog.depth 41=false :=aj
 have G:=run_eqGuard_agg w .eql 41 x y [str E,.int .i64 a0,.int .i64 i,.int .i64 A,.int .i64 d0].toArray [str s1,.int .i64 a,.int .i64 q,.int .i64 C,.int .i64 d1].toArray hm
 have he:=SG E s1 a0 i A d0 a q C d1 w
 simp only [execOp,I,J,Sem.run_bind,G,he,Result.andThen_ok,Sem.run_pure]
end
theorem Bf {l:List bV} (h:0 < l.length):l3 l≠[]:=BB (f:=e7) (m:=5) (fun _=>rfl) az h
theorem Zc:lD tK ze=some (jY,nq):=DC Y6 Y8
theorem Y9:qP (jU jY nq 0) 9=vP:=by
 have h:=qp (F:=jY) (xs:=nq) (k:=0) az
 rw [show ((0:Nat):Int)=0 from rfl] at h
 rw [h,Y7]; rfl
theorem tw {w:World} {B e:Nat} {a:Option Addr} {L:List bV} {c:Nat} (h:World.ownsRow w B e 5 (.slice a L.length c) L.length (l3 L)):aJ w.heap a (l3 L):=(a7 h).2
theorem LY (w:World):
 bm prog 12 (bf []) w (fun v w'=>v= .bool true∧Wk w w'):=by
 refine enter func12 aa ntmps12 aa<|ag fun I=>aw<|I<|ag fun J=>e<|cl FN (Ly tK ze w az az) aa fun v5 ak ae=> ?_
 obtain ⟨⟨pp,ay,aB,aC,rfl,G⟩,hE5⟩:=ae
 rw [Zc] at G
 obtain ⟨B,tb,U,ap,rfl,ai,Y⟩:=G
 refine p mv<|p (xt aa aa)<|p (xt aa aa)<|e<|al p4 fun am aD aq A V=> ?_
 have ax:=A.size
 refine p aA<|e<|cW jT aa aa aa aa (V) (by simp) fun C E ao=> ?_
 have Z:Wk w C:=(hE5.trans A.md).trans' E fun q aj h=>by have :=hE5.size; omega
 have ab:Wk ak C:=A.md.trans' E fun q aj h=>by omega
 refine nl<|J<|ag fun M=>p mv<|e<|cl OW (Vp B tb U jY nq 0 9 C (ai.wk ab) Y az) aa fun v9 aE ah=> ?_
 obtain ⟨a,ac⟩:=ah
 rw [Y9] at a
 obtain ⟨a9,an,rfl⟩:=cB a
 refine aw<|M<|ag fun O=>p mv<|p (bK LK aa aa)<|p (bJ aa aa)<|p mv<|gs (t:=13) aa (fun ar=> ?_) fun h=>absurd aa h
 refine aI aa mv<|aI aa (a8 Bk aa aa az<|aJ.ok (tw a)<|Bf az)<|aI aa (fa x7 aa)<|aI aa (ld bT aa<|fG (f:=e7) (m:=5) (i:=0) (fun _=>rfl) (tw a) (show vP[0]? =some ⟨[100,111],0,-1,-1,-1⟩ from aa) 0 az)<|aI aa (dV aa aa)<|p (bB aa)<|p mv<|gs (t:=20) aa (fun au=> ?_) fun h=>absurd aa h
 refine aI aa mv<|aI aa (a8 Bk aa aa az<|aJ.ok (tw a)<|Bf az)<|aI aa (fa x7 aa)<|aI aa (ld bT aa<|fG (f:=e7) (m:=5) (i:=1) (fun _=>rfl) (tw a) (show vP[1]? =some ⟨[100,111,115],0,0,-1,-1⟩ from aa) 0 az)<|aI aa (dV aa aa)<|p (bB aa)<|p mv<|gs (t:=27) aa (fun av=> ?_) fun h=>absurd aa h
 exact aI aa mv<|aI aa (a8 Bk aa aa az<|aJ.ok (tw a)<|Bf az)<|aI aa (da sF aa (aa)<|fG (f:=e7) (m:=5) (i:=2) (fun _=>rfl) (tw a) (show vP[2]? =some ⟨[100,111,101,114],0,1,-1,-1⟩ from aa))<|aI aa (cQ (ps:= [(0,str [100,111,101,114]),(2,.int .i64 1),(3,.int .i64 (-1)),(4,.int .i64 (-1))]) (L:= [str [100,111,101,114],.int .i64 0,.int .i64 1,.int .i64 (-1),.int .i64 (-1)]) Lj aa<|aa)<|aI aa (SF aa aa)<|p (bB aa)<|p aA<|nl<|O<|rt<|aV aa<|⟨congrArg bQ (decide_eq_true ⟨aa,aa,aa,aa,aa⟩),Z.trans ac⟩
theorem Ks (a t:Tx) (w:World) (Y:a.length≤1048576) (Z:t.length≤1048576):
 bm prog 11 (bf [str a,str t]) w (fun v w'=>(match lD a t with | none=>v= .tuple #[.pointer none,.pointer none,.bool true] | some T=> ∃ B tb G E C fb V ve,v= .tuple #[aQ tb,aQ C,.bool true]∧fE w' B tb G T.1 T.2∧eF T.1 T.2∧fY w' E C fb V ve T.1 T.2)∧Wk w w'):=by
 refine enter func11 aa ntmps11 aa<|ag fun ac=>p aA<|p aA<|aw<|ac<|aB fun ae=>rg aa<|ak (str a)<|ak (str t)<|e<|cl FN (Ly a t w Y Z) aa fun aX ax aq=> ?_
 obtain ⟨⟨aO,aR,aS,aT,rfl,i⟩,hE14⟩:=aq
 have aL:=hE14.size
 refine p mv<|p (xt aa aa)<|p (xt aa aa)<|e<|al p4 fun aD aZ aI U an=> ?_
 have aN:=U.size
 refine p aA<|e<|cW jT aa aa aa aa (an) (by simp) fun ab M aE=> ?_
 have J:Wk ax ab:=U.md.trans' M fun q av h=>by omega
 have aJ:=M.size
 refine nl<|ae<|ag fun ah=>ak (str a)<|ak (str t)<|e<|cl P5 (Xw a t ab Y Z) aa fun v20 ay ar=> ?_
 obtain ⟨⟨aP,aU,aV,aW,rfl,A⟩,hE20⟩:=ar
 have aM:=hE20.size
 refine p mv<|p (xt aa aa)<|p (xt aa aa)<|e<|al Mg fun aC aY aH O am=> ?_
 have aK:=O.size
 refine p aA<|e<|cW xz aa aa aa aa (am) (by simp) fun az ap aF=> ?_
 have I:Wk ay az:=O.md.trans' ap fun q av h=>by omega
 refine nl<|ah<|ag fun ai=>p mv<|p mv<|p mv<|p (kT tH aa aa)<|p mv<|p (kT DG aa aa)<|p (xM u4 aa aa)<|p aA<|p aA<|aw<|ai<|rt<|f3 aa aa aa aa ?_
 refine ⟨?_,hE14.trans<|J.trans<|hE20.trans I⟩
 cases hx:lD a t with
 | none=>rw [hx] at i A; subst i A; rfl
 | some T=>
   rw [hx] at i A
   obtain ⟨B,tb,G,aG,rfl,au,aj⟩:=i
   obtain ⟨E,C,fb,V,ve,rfl,ao⟩:=A
   exact ⟨B,tb,G,E,C,fb,V,ve,aa,au.wk (J.trans<|hE20.trans I),aj,ao.wk I⟩
end Go.Hb
end
section
namespace Go.Hb
open Go.Hb.dT
open Go.Proofs
open Go.Hb.fj Go.Hb.fX Go.Hb.j9 Go.Hb.gX Go.Hb.jF Go.Hb.kr Go.Hb.lf Go.Hb.lH Go.Hb.js Go.Hb.kN Go.Hb.mV Go.Hb.ri Go.Hb.rj
theorem VK (most:Int):l9 [] most=(0,0,decide (most≥0)):=by
 have a:dJ []=0:=rfl
 by_cases h:most < 0
 · rw [qH (.inl h),decide_eq_false ab]
 · rw [yx (by rw [a]; omega),decide_eq_true ab]; rfl
theorem VJ (a t:Tx) (most:Int) (w:World) (ar:a.length≤1048576) (au:t.length≤1048576) (F:aR) (xs:List bD) (ax:lD a t=some (F,xs)):
 bm prog 7 (bf [str a,str t,.int .i64 most]) w (fun v w'=>v= .bool true∧Wk w w'):=by
 refine enter func7 aa ntmps7 aa<|ag fun O=>aw<|O<|ag fun U=>ak (str a)<|ak (str t)<|e<|cl ky (Ks a t w ar au) aa fun aG ay an=> ?_
 obtain ⟨J,aj⟩:=an
 rw [ax] at J
 obtain ⟨B,tb,G,E,M,fb,V,ve,av,C,i,A⟩:=J
 subst av
 have C:fE _ B tb G F xs:=C
 have i:eF F xs:=i
 have A:fY _ E M fb V ve F xs:=A
 refine p mv<|p (xt aa aa)<|p (xt aa aa)<|p (xt aa aa)<|p aA<|p aA<|p aA<|nl<|U<|aB fun Y=>ag fun Z=>p mv<|p (no aa)<|p mv<|gb (t:=25) aa (fun h=>absurd (h.symm.trans<|aa) ee) fun aD=> ?_
 refine eg aa aa aa<|cl kz (LY ay) aa fun aH az ao=> ?_
 obtain ⟨rfl,q⟩:=ao
 have al:=aj.trans q
 refine aI aa (no aa)<|p (bp aa)<|nl<|Z<|cf (aa)<|aM<|Y<|aB fun ab=>rg aa<|p mv<|ak (.int .i64 most)<|e<|cl uD (VN B tb G F xs most az (C.wk q) i) aa fun aJ aC ap=> ?_
 obtain ⟨rfl,I⟩:=ap
 refine p mv<|p (xt aa aa)<|p (xt aa aa)<|p (xt aa aa)<|p aA<|p aA<|p aA<|nl<|ab<|aB fun ac=>ag fun ae=>p mv<|p (kT DG aa aa)<|nl<|ae ?_
 refine cf (aa)<|aM<|ac<|ag fun ah=>p mv<|ak (.int .i64 most)<|e<|cl Pu (Xk E M fb V ve F xs most aC (A.wk<|q.trans I) i) aa fun v53 aK aq=> ?_
 obtain ⟨rfl,am⟩:=aq
 refine p mv<|p (xt aa aa)<|p (xt aa aa)<|p (xt aa aa)<|p aA<|p aA<|p aA<|nl<|ah<|ag fun ai=>p mv<|p mv<|p (bJ aa aa)<|p mv<|gs (t:=60) aa (fun aE=> ?_) fun h=>absurd aa h
 refine aI aa mv<|aI aa mv<|aI aa (bJ aa aa)<|p (bB aa)<|p mv<|gs (t:=65) aa (fun aF=> ?_) fun h=>absurd aa h
 exact aI aa mv<|aI aa mv<|aI aa (xM u4 aa aa)<|p (bB aa)<|aw<|ai<|rt<|aV aa<|⟨Eq.trans (b:=bQ<|decide ((l9 (eN F xs xs.length) most).2.2=(l9 (eN F xs xs.length) most).2.2)) aa (congrArg bQ<|decide_eq_true aa),(al.trans I).trans am⟩
theorem VI (a t:Tx) (most:Int) (w:World) (ac:a.length≤1048576) (ae:t.length≤1048576) (ai:lD a t=none):
 bm prog 7 (bf [str a,str t,.int .i64 most]) w (fun v w'=>v= .bool true∧Wk w w'):=by
 refine enter func7 aa ntmps7 aa<|ag fun q=>aw<|q<|ag fun A=>ak (str a)<|ak (str t)<|e<|cl ky (Ks a t w ac ae) aa fun aj al Y=> ?_
 obtain ⟨i,M⟩:=Y
 rw [ai] at i
 have ah:aj=_:=i
 subst ah
 refine p mv<|p (xt aa aa)<|p (xt aa aa)<|p (xt aa aa)<|p aA<|p aA<|p aA<|nl<|A<|aB fun C=>ag fun E=>p mv<|p (no aa)<|p mv<|gb (t:=25) aa (fun h=>absurd (h.symm.trans<|aa) ee) fun ao=> ?_
 refine eg aa aa aa<|cl kz (LY al) aa fun ar am Z=> ?_
 obtain ⟨rfl,U⟩:=Z
 have O:=M.trans U
 refine aI aa (no aa)<|p (bp aa)<|nl<|E<|cf (aa)<|aM<|C<|aB fun G=>rg aa<|p mv<|ak (.int .i64 most)<|e<|cl uD (VM most am) aa fun au av ab=> ?_
 obtain ⟨rfl,V⟩:=ab
 rw [VK]
 refine p mv<|p (xt aa aa)<|p (xt aa aa)<|p (xt aa aa)<|p aA<|p aA<|p aA<|nl<|G<|aB fun an=>ag fun I=>p mv<|p (kT DG aa aa)<|nl<|I ?_
 refine ct (aa)<|ag fun J=>p mv<|p (bJ aa aa)<|p mv<|gs (t:=40) aa (fun ap=> ?_) fun h=>absurd aa h
 refine aI aa mv<|aI aa (bJ aa aa)<|p (bB aa)<|p mv<|gs (t:=44) aa (fun aq=> ?_) fun h=>absurd aa h
 exact aI aa mv<|aI aa (aT (.int .i64 most) aa)<|aI aa (ge aa aa)<|aI aa (xM u4 aa aa)<|p (bB aa)<|aw<|J<|rt<|tr<|aV aa<|⟨Eq.trans (b:=bQ<|decide (decide (most≥0)=decide (most≥0))) aa (congrArg bQ<|decide_eq_true aa),O.trans V⟩
theorem VL (a t:Tx) (most:Int) (w:World) (i:a.length≤1048576) (q:t.length≤1048576):bm prog 7 [str a,str t,.int .i64 most].toArray w (fun v w'=>v= .bool true∧Wk w w'):=by
 cases hx:lD a t with
 | none=>exact VI a t most w i q hx
 | some Y=>obtain ⟨F,xs⟩:=Y; exact VJ a t most w i q F xs hx
end Go.Hb
end
