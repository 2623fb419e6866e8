/-
  Walks and plain laws that the law rests on, laid together. No conditions but those that each theorem names.
-/
import Derived.Test.YtkiemnnhcilhpaaGreatDoorMnDicAnyWord4
set_option linter.unusedVariables false
section
set_option maxRecDepth 20000
set_option maxHeartbeats 1000000
namespace Go.Hb.mQ
open Go.Hb.cJ
open Go.Proofs
open Go.Hb.gx Go.Hb.fQ Go.Hb.mN
set_option maxHeartbeats 1000000 in
theorem vk (s:List UInt8) (w:World) (hs:s.length≤1048576):
 aT Tryz.prog 29 (List.toArray [str s]) w (fun v w'=>(∃ a,v= .tuple #[a,.int .i64 (if 65536 < s.length then 10 else 0)]∧(if 65536 < s.length then a= .slice none 0 0 else ∃ vs,World.ownsRow w' w.heap.size 105 2 a (cI s).length (gO vs)∧ep w' w.heap.size 9 vs (cI s)))∧Wk w w'):=by
 refine sY [] Tryz.func29 rfl Tryz.ntmps29 rfl ?_
 refine dS ?_
 refine eD ?_
 refine rg rfl (p aw (p aw (nl (dY ?_))))
 refine dS ?_
 refine dS ?_
 refine eD ?_
 refine rg rfl (p (ao (str s) rfl) (p (bV u9 rfl rfl) (p (gt rfl rfl) (nl (dY ?_)))))
 refine eD ?_
 refine cd rfl (fun a2=> ?_) (fun a2=> ?_)
 refine sq (fun az aa=>rg rfl (p aw (p aw (nl (tn (aa _ _ (rt (qv ?_))))))))
 refine sZ rfl rfl rfl ?_
 have hl:65536 < s.length:=by omega
 exact ⟨⟨.slice none 0 0,by show Value.tuple #[.slice none 0 0,.int .i64 10]=_; rw [if_pos hl],by rw [if_pos hl]⟩,Md.refl _ _⟩
 refine aA (dY ?_)
 refine dS ?_
 refine eD ?_
 refine rg rfl (e (fK GI fun ag w4 bx aZ aF=>nl (dY ?_)))
 refine dS ?_
 refine dS ?_
 refine eD ?_
 refine rg rfl (p (ao (str s) rfl) (e (cl r7 (sU s _) rfl fun bF w14 a0=> ?_)))
 obtain ⟨aj,rfl,hb14,aD,hE14⟩:=a0
 have U:Wk w w14:=Md.trans aZ.md hE14
 have bB:ag < w4.heap.size:=(Array.getElem?_eq_some_iff.1 aF).1
 have hb4x:=hE14.au aF
 have hb14l:=(Array.getElem?_eq_some_iff.1 aD).1
 have hl:s.length≤65536:=by omega
 refine nl (dY ?_)
 apply ve (nv) ((e4 1 (bC s))) (fun W=>W.heap[aj]? =some (.cells [str s].toArray 9 (0,0))) (fun pre I=> ∃ v vs,I.heap[ag]? =some (.cells [v].toArray 74 (0,0))∧World.ownsRow I w14.heap.size 105 2 v (fD 1 (pre.map Prod.snd)).length (gO vs)∧ep I w14.heap.size 9 vs (fD 1 (pre.map Prod.snd))∧I.heap[aj]? =some (.cells [str s].toArray 9 (0,0))∧w14.heap.size≤I.heap.size∧Wk w I) rfl se (fun _=>rfl) (sT s aj hl) (⟨.slice none 0 0,[],hb4x,World.ownsRow_nil _ _ _ _,ep.nil _ _ _,aD,Nat.le_refl _,U⟩) (fun _ _ ⟨_,_,_,_,_,h,_⟩=>h) (fun pre A C F ⟨v,vs,h1,h2,aL,h3,h5,h4⟩ hm Z=>⟨v,vs,n9 h1 hm Z,vF h2 hm Z,aL.md hm (fun k hk cur z=>(Z k hk).2 cur _ z),n9 h3 hm Z,Nat.le_trans h5 hm.size,vG h4 hm U.size Z⟩)
 intro l x I K V
 refine sq (fun az aa=>rg rfl (p (bw (.int .i64 x.1) rfl) (nl (tn (aa _ _ (rg rfl (p (bw (str x.2) rfl) (nl ?_))))))))
 exact tn (V)
 intro l pre x rest I hx an
 obtain ⟨v,vs,av,ac,hrw,ar,hsz,am⟩:=an
 obtain ⟨hpl,bi,bj⟩:=qf hx
 have hll:=ky s
 have hsR:=(Array.getElem?_eq_some_iff.1 ar).1
 have hxl:x.2.length≤s.length:=ur (by rw [bj]; simp)
 have hfl:=pE x.2 []
 have hrl:=vf (pre.map Prod.snd) 1
 rw [List.length_map] at hrl
 refine au (sq (fun az aa=>rg rfl (p mv (e (cl yP (Bs x.2 _ (by omega)) rfl fun bH w18 a1=> ?_)))))
 obtain ⟨ab,aO⟩:=a1
 obtain ⟨j,ah,rfl⟩:=dw ab
 have hS18:=(aB ab).2
 have hc18:=(aB ab).1
 refine p aw (nl (tn (aa _ _ ?_)))
 refine dm (fun ai wC=> ∃ (n cp:Nat),(n≤(bI [] x.2).length)∧(n≤cp)∧(iy (bI [] x.2)=(bI [] x.2).take n)∧(Wk w18 wC)∧(ai 4= .pointer (some ⟨ag,0,none⟩))∧(ai 5= .int .i64 x.1)∧(ai 7= .slice j n cp)) ?_ ?_
 refine sq (fun aJ aq=>rg rfl (p mv (p (bl dT rfl rfl) (p mv (nl (tn (aq _ _ (au ?_))))))))
 refine lp (fun aC O wI=> ∃ (i:Nat),(i≤(bI [] x.2).length)∧(∀ q,q < i→kF ((bI [] x.2).getD q [])=false)∧(Wk w18 wI)∧(O 4= .pointer (some ⟨ag,0,none⟩))∧(O 5= .int .i64 x.1)∧(O 7= .slice j (bI [] x.2).length ah)∧(O 19= .slice j (bI [] x.2).length ah)∧(O 20= .int .i64 (bI [] x.2).length)∧(O 21= .int .i64 i)∧((bI [] x.2).length - i=aC)) _ ⟨0,(by omega),((fun q a6=>by omega)),(Md.refl _ _),rfl,rfl,rfl,rfl,rfl,rfl,rfl⟩ ?_
 rintro aC O wI ⟨i,hi,ay,Y,bf,bg,bh,bb,bc,bd,rfl⟩
 refine fx 4 bf (fx 5 bg (fx 7 bh (fx 19 bb (fx 20 bc (fx 21 bd (sq (fun bm aS=>rg rfl (p (lt rfl rfl) (nl (tn (aS _ _ (sq (fun bq aU=>cd rfl (fun a3=> ?_) (fun a3=> ?_))))))))))))))
 refine aA (tn (aU _ _ (sq (fun br aV=>au (sq (fun bs aW=>rg rfl (p (ao (.int .i64 i) rfl) (p (aH bZ rfl rfl (by omega) (ak.ok (hS18.wk Y) (bG (by omega)))) ?_))))))))
 refine p (ld bQ rfl (bE.get (i:=i) (hS18.wk Y) (by omega))) (p (bw (.int .i64 i) rfl) (p aw (nl (tn (aW _ _ (sq (fun bt aX=>rg rfl (p mv ?_))))))))
 refine p (iw 0 u9 rfl rfl (List.length_pos_iff.2 (tv _ _ _ (B7 (by omega))).1)) (p (bo rfl rfl) (nl (tn (aX _ _ (cd rfl (fun a4=> ?_) (fun a4=> ?_))))))
 refine sq (fun bu aY=>rg rfl (p (ao (.slice j (bI [] x.2).length ah) rfl) (p (ao (.int .i64 i) rfl) (p (ao (.int .i64 i) rfl) (p (zp bZ rfl rfl rfl (by omega)) (p aw (nl ?_)))))))
 exact tn (aY _ _ (ext (iN (by decide) (te _ (te _ (be (tn (⟨i,i,hi,(Nat.le_refl _),(ue hi ay (.inr (decide_eq_true (by omega)))),Y,rfl,rfl,rfl⟩))))))))
 refine aA (bn (tn (aV _ _ (rg rfl (p (ad rfl rfl (bp (by omega))) (p mv (nl (tn ?_))))))))
 exact ⟨_,by omega,i+1,(by omega),((fun q a6=>by rcases Nat.lt_or_ge q i with h | h <;> first | exact ay q h | (rw [show q=i by omega]; exact decide_eq_false (by omega)))),Y,rfl,rfl,rfl,rfl,rfl,rfl,rfl⟩
 exact ext (te _ (te _ (be (tn (⟨(bI [] x.2).length,ah,(Nat.le_refl _),hc18,((by have h:=ue hi ay (.inl (by omega)); rwa [show i=(bI [] x.2).length from by omega] at h)),Y,rfl,rfl,rfl⟩)))))
 rintro ai wC ⟨n,cp,hn,hcp,aI,al,a7,a8,ba⟩
 refine fx 4 a7 (fx 5 a8 (fx 7 ba ?_))
 have E:Wk I wC:=Md.trans aO al
 have hbC:=E.au av
 have hovC:=aE ac E
 have hrwC:=hrw.wk E
 have hbtC:=E.au ar
 have aG:Wk w wC:=Md.trans am E
 refine sq (fun aJ aq=>rg rfl (p (ao (.slice j n cp) rfl) (p (bl dT rfl rfl) (p (gt rfl rfl) (nl (tn (aq _ _ (cd rfl (fun a5=> ?_) (fun a5=> ?_)))))))))
 have ae:iW x.2 (1 +pre.length)= [(x.1,(bI [] x.2).take n)]:=by unfold iW; rw [aI,if_neg (fun h=>by have h:=congrArg List.length h; rw [List.length_take,List.length_nil] at h; omega),← bi]
 refine rg rfl (p (ld kU rfl ((aQ hbC).trans rfl)) (p (ao (.int .i64 x.1) rfl) (p (ao (.slice j n cp) rfl) (p (bT (ps:= [(0,.int .i64 x.1),(1,.slice j n cp)]) (L:= [.int .i64 x.1,.slice j n cp]) FC rfl (rfl)) (e (kp vB rfl rfl rfl fun aK w41 hb41 G aM=> ?_))))))
 have aN:a9 w41.heap aK [.int .i64 x.1,.slice j n cp]:=aM
 have aP:Wk w w41:=Md.trans aG G.md
 have hov41:=aE hovC G.md
 have hb41:=G.md.au hbC
 refine e (ap vB (hov41) rfl (by have :=G.size; have :=E.size; omega) rfl (ak.ea aN) (rfl) (rfl) (by omega) (by omega) fun bk w42 ax J bD bz=> ?_)
 have hE42:=Wk.own aP hov41 J U.size
 have hbt42:=J.au (G.md.au hbtC) (fun h=>by have :=cU hov41 h; omega)
 have hb42:=J.au hb41 (fun h=>cz hov41 hb41 (by decide) h)
 have hrw42:=(hrwC.wk G.md).md J (fc hov41 (by decide))
 have ho42f:=bA (aE (aE ab al) G.md) J (fun k hk=>jb (aE (aE ab al) G.md) hov41 (by decide) hk)
 refine e (c4 sD rfl rfl (dA ax) hb42 (by simp) fun w6 M hB6=> ?_)
 have aR:Wk w w6:=Md.trans' hE42 M (fun k hk h=>by omega)
 have hrw6:=(hrw42.md M (ez hb42 (by decide))).snoc (n:=x.1) (r:=(bI [] x.2).take n) (v:= .slice j n cp) (by rw [List.length_take,Nat.min_eq_left hn,List.map_take]; exact (Tg.fW (fX (bA ho42f M (fun k hk h=>cz ho42f hb42 (by decide) (h ▸ hk))) hsz)).clip hcp)
 exact nl (bn (⟨(fi.wk E).trans ((fi.wk G.md).trans ((fi.md J (mo hov41)).trans (fi.md M (fun k hk=>⟨_,_,_,hk ▸ hb42⟩)))),bk,vs++ [(x.1,.slice j n cp)],hB6,(by rw [List.map_append,show [x].map Prod.snd= [x.2] from rfl,nS,List.length_map,ae]; rw [List.length_append,E6]; exact bA ax M (fun k hk h=>cz ax hb42 (by decide) (h ▸ hk))),(by rw [List.map_append,show [x].map Prod.snd= [x.2] from rfl,nS,List.length_map,ae]; exact hrw6),M.au hbt42 (fun h=>by omega),Nat.le_trans hsz (Nat.le_trans E.size (Nat.le_trans G.md.size (Nat.le_trans J.size M.size))),aR⟩))
 have ae:iW x.2 (1 +pre.length)= []:=by unfold iW; rw [aI,if_pos (by rw [show n=0 by omega]; rfl)]
 exact aA (bn (⟨fi.wk E,v,vs,hbC,(by rw [List.map_append,show [x].map Prod.snd= [x.2] from rfl,nS,List.length_map,ae]; rw [List.append_nil]; exact hovC),(by rw [List.map_append,show [x].map Prod.snd= [x.2] from rfl,nS,List.length_map,ae]; rw [List.append_nil]; exact hrwC),hbtC,Nat.le_trans hsz E.size,aG⟩))
 intro D I bv an V
 obtain ⟨v,vs,av,ac,hrw,ar,hsz,am⟩:=an
 have hlt:=(Array.getElem?_eq_some_iff.1 V).1
 refine dY ?_
 refine dS ?_
 refine eD ?_
 refine rg rfl (p (ld kU rfl ((aQ av).trans rfl)) (p aw (p aw (nl (dY ?_)))))
 refine qy ?_
 refine s0 rfl rfl rfl V ?_
 have hl:¬65536 < s.length:=by omega
 rw [qg] at ac hrw
 exact ⟨⟨v,by show Value.tuple #[v,.int .i64 0]=_; rw [if_neg hl],by rw [if_neg hl]; exact ⟨vs,fX (bA ac (lu _ _ _) (fun k hk h=>by obtain ⟨c,e,z,h1⟩:=mo ac k hk; rw [h,V] at h1; cases h1)) U.size,(hrw.md (lu _ _ _) (fun k hk cur z=>by rw [hk,V]; simp)).mono U.size⟩⟩,Md.trans' am (lu _ _ _) (fun k hk h=>by have :=U.size; omega)⟩
end Go.Hb.mQ
end
section
set_option maxRecDepth 20000
set_option maxHeartbeats 1000000
namespace Go.Hb.kN
open Go.Hb.cJ
open Go.Proofs
open Go.Hb.eM Go.Hb.fg Go.Hb.jk Go.Hb.fF Go.Hb.jl Go.Hb.j9 Go.Hb.lO Go.Hb.jN Go.Hb.qU Go.Hb.iG Go.Hb.qV Go.Hb.mQ Go.Hb.mN Go.Hb.gx Go.Hb.fQ
theorem me {eof ln:Nat} {F F':aG} {hs:List Tx} {rows a:List Rw} {row:List Tx} (hx:bh eof F hs rows ln row= .ok (F',a)):a.length≤rows.length:=by
 unfold bh at hx
 repeat' split at hx
 · unfold fZ at hx; split at hx; cases hx; cases hx; exact Nat.le_refl _
 · unfold gJ at hx; repeat' split at hx
   all_goals first | (cases hx; done) | (cases hx; exact Nat.le_refl _)
 · unfold jH at hx; split at hx; cases hx; cases hx; exact Nat.le_refl _
 · unfold jJ at hx; split at hx; cases hx; cases hx; exact Nat.le_refl _
 · unfold gK at hx; repeat' split at hx
   all_goals first | (cases hx; done) | (cases hx; exact Nat.le_refl _)
 · unfold gM at hx; repeat' split at hx
   all_goals first | (cases hx; done) | (cases hx; exact (pQ _ _ _ (by assumption)).1)
 · unfold gh at hx; repeat' split at hx
   all_goals first | (cases hx; done) | (cases hx; exact (pQ _ _ _ (by assumption)).1)
 · unfold eN at hx; repeat' split at hx
   all_goals first | (cases hx; done) | (cases hx; exact (pQ _ _ _ (by assumption)).1)
theorem EC {eof k:Nat} {F:aG} {hs:List Tx} :fu eof k F hs []= .ok F:=by cases k <;> simp [fu]
section
variable {eof k n:Nat} {F:aG} {hs:List Tx} {r:List Tx} {rest:List Rw} {T:Except (Nat×Nat) aG} (h:fu eof k F hs ((n,r)::rest)=T) (hk:rest.length+1≤k)
include h hk
theorem EA (h0:width (r.getD 0 [])=0):T= .error (n,110):=by
 obtain ⟨m,rfl⟩:∃ m,k=m+1:=⟨k - 1,by omega⟩
 rw [← h,fu,if_pos h0]
theorem EB (h0:width (r.getD 0 [])≠0) (h1:r.length≠width (r.getD 0 [])):T= .error (n,111):=by
 obtain ⟨m,rfl⟩:∃ m,k=m+1:=⟨k - 1,by omega⟩
 rw [← h,fu,if_neg h0,if_pos h1]
theorem vb (h0:width (r.getD 0 [])≠0) (h1:r.length=width (r.getD 0 [])) (h2:width (r.getD 0 [])≠4) (h3:r.getD 0 []∈hs):T= .error (n,112):=by
 obtain ⟨m,rfl⟩:∃ m,k=m+1:=⟨k - 1,by omega⟩
 have hw:width (r.getD 0 [])=2:=by
  unfold width at h0 h2 ⊢
  split
  · rfl
  · rename_i hn
    rw [if_neg hn] at h0 h2
    split at h2
    · exact absurd rfl h2
    · rename_i a; rw [if_neg a] at h0; exact absurd rfl h0
 rw [← h,fu,if_neg h0,if_neg (fun h4=>h4 h1),if_pos ⟨hw,h3⟩]
theorem vc {e:Nat×Nat} (h0:width (r.getD 0 [])≠0) (h1:r.length=width (r.getD 0 [])) (h2:width (r.getD 0 [])=2→r.getD 0 []∉hs) (h3:bh eof F hs rest n r= .error e):T= .error e:=by
 obtain ⟨m,rfl⟩:∃ m,k=m+1:=⟨k - 1,by omega⟩
 rw [← h,fu,if_neg h0,if_neg (fun h4=>h4 h1),if_neg (fun h4=>h2 h4.1 h4.2),h3]
theorem vd {F':aG} {a:List Rw} (h0:width (r.getD 0 [])≠0) (h1:r.length=width (r.getD 0 [])) (h2:width (r.getD 0 [])=2→r.getD 0 []∉hs) (h3:bh eof F hs rest n r= .ok (F',a)):fu eof (k - 1) F' (hs++ [r.getD 0 []]) a=T∧a.length≤k - 1:=by
 obtain ⟨m,rfl⟩:∃ m,k=m+1:=⟨k - 1,by omega⟩
 refine ⟨?_,by have :=me h3; omega⟩
 rw [← h,fu,if_neg h0,if_neg (fun h4=>h4 h1),if_neg (fun h4=>h2 h4.1 h4.2),h3]; rfl
end
theorem xh {s:Tx} (h:65536 < s.length):fR s= .error (0,10):=by unfold fR; rw [if_pos h]
theorem kS {s:Tx} {e:Nat×Nat} (h:¬65536 < s.length) (h1:fu ((bC s).length+1) (cI s).length dW [] (cI s)= .error e):fR s= .error e:=by unfold fR; rw [if_neg h,h1]
theorem xg {s:Tx} {F:aG} {q:eI} (h:¬65536 < s.length) (h1:fu ((bC s).length+1) (cI s).length dW [] (cI s)= .ok F) (h2:F.rules.find? (iM F)=some q):fR s= .error (q.line,118):=by unfold fR; rw [if_neg h,h1]; simp only; rw [h2]
theorem xi {s:Tx} {F:aG} (h:¬65536 < s.length) (h1:fu ((bC s).length+1) (cI s).length dW [] (cI s)= .ok F) (h2:F.rules.find? (iM F)=none):fR s= .ok F:=by unfold fR; rw [if_neg h,h1]; simp only; rw [h2]
def jZ (s:Tx):Value:=match dP s with | some (.agg cs)=>cs.getD 1 .nilFunc | _=> .nilFunc
theorem Cq (s:Tx):(dP s).getD (.agg #[.int .i64 0,.nilFunc])= .agg [.int .i64 (width s:Nat),jZ s].toArray∧(dP s).isSome=decide (width s≠0):=by
 rcases pR s with h | ⟨wd,f,h,hw,h0⟩
 · have h0:=tP h
   unfold jZ
   rw [h,h0]; exact ⟨rfl,rfl⟩
 · unfold jZ
   rw [h,hw,decide_eq_true h0]; exact ⟨rfl,rfl⟩
theorem Cu (s:Tx):[Value.int .i64 (width s:Nat),jZ s].all Value.oneCell'=true :=by
 rcases pR s with h | ⟨wd,f,h,hw,h0⟩ <;> unfold jZ <;> rw [h] <;> rfl
theorem tO {s:Tx} (h:width s≠0):∃ v,dP s=some v∧∀ (wd:Nat) (f:Nat),v= .agg [.int .i64 (wd:Nat),.func (.func f) #[] #[]].toArray→jZ s= .func (.func f) #[] #[]:=by
 rcases pR s with h1 | ⟨wd,f,h1,hw,h0⟩
 · exact absurd (tP h1) h
 · refine ⟨_,h1,fun c a he=> ?_⟩
   unfold jZ
   rw [h1,he]; rfl
theorem vt {f:Value→Option Value} {seen:List Tx} (k:Tx) (hf:∀ s:Tx,(f (str s)).getD (.int .i64 0)= .int .i64 (seen.count s:Nat)) (s:Tx):(aX f (str k) (.int .i64 (seen.count k+1:Nat)) (str s)).getD (.int .i64 0)= .int .i64 ((seen++ [k]).count s:Nat):=by
 rw [List.count_append]
 by_cases h:s=k
 · subst h; rw [mr]; simp
 · rw [lA (fun h2=>h (str_inj.1 h2)),hf s,List.count_singleton,show (k==s)=false from by simpa using fun h2=>h h2.symm]; rfl
theorem bg.vq {w w':World} {B:Nat} {H:bd} {F:aG} {R:dF} {rows:List Rw} {ln:Nat} {seen seen':List Tx} {f:Value→Option Value} (h:bg w B H F R rows ln seen) (hm:Md (fun k=>k=H.ms) w w') (hf:bf w'.heap H.ms eC f) (hd:∀ s:Tx,(f (str s)).getD (.int .i64 0)= .int .i64 (seen'.count s:Nat)):bg w' B H F R rows ln seen':=by
 obtain ⟨g,hg,hg2⟩:=h.tm
 obtain ⟨f0,a,_⟩:=h.sm
 have hT:TF w [1] (fun k=>k=H.ms):=TF.eq (bX a) (by decide)
 exact ⟨hm.g3 hT h.cells (by decide),h.rws.md hm (fun k hk cur z hx=>hT.no (cW hx) (by decide) hk),h.rt.md hm (fun k hk cur z hx=>hT.no (cW hx) (by decide) hk),⟨f,hf,hd⟩,⟨g,hg.md hm (fun h2=>h.ne.1 h2.symm),hg2⟩,cg h.on hm hT (by decide),h.lo,h.ne⟩
theorem bB.ms {w w':World} {B:Nat} {H:bd} {F a:aG} {V:c5} {R:dF} {rows:List Rw} {ln:Nat} {seen:List Tx} (h:bB w B H.fb H.mc a V) (c:bg w B H F R rows ln seen) (hm:Md (fun k=>k=H.ms) w w'):bB w' B H.fb H.mc a V:=by
 obtain ⟨g,hg,_⟩:=c.sm
 exact h.md (L:= [1]) hm (TF.eq (bX hg) (by decide)) (by decide) (fun h=>c.ne.2.1 h.symm)
theorem cK.ms {w w':World} {B:Nat} {H:bd} {F:aG} {R:dF} {rows:List Rw} {ln:Nat} {seen:List Tx} (a:bg w B H F R rows ln seen) (hm:Md (fun k=>k=H.ms) w w'):cK B H w w':=hm.mono fun k _ hk=>⟨hk ▸ a.lo.2.1,.inl hk⟩
structure jn (w0 w:World) (H:bd) (b2 b3 bt:Nat):Prop where
 c2:w.heap[b2]? =some (.cells [.pointer none].toArray 22 (0,0))
 c3:w.heap[b3]? =some (.cells [.int .i64 0,.int .i64 0,.int .i64 0].toArray 25 (0,0))
 lo:w0.heap.size≤b2∧w0.heap.size≤b3∧b2≠b3
 tb:∃ f,bf w.heap bt eC f∧∀ s,f (str s)=dP s
 ne:bt≠H.ms∧bt≠H.mt∧bt≠H.mc
 wk:Wk w0 w
theorem jn.md {i w w':World} {H:bd} {a c bt:Nat} (h:jn i w H a c bt) (hm:Wk w w'):jn i w' H a c bt:=by
 obtain ⟨f,hf,j⟩:=h.tb
 exact ⟨Wk.au hm h.c2,Wk.au hm h.c3,h.lo,⟨f,hf.wk hm,j⟩,h.ne,h.wk.trans hm⟩
theorem jn.mw {a w w':World} {H:bd} {c i bt:Nat} {F:aG} {R:dF} {V:c5} {rows:List Rw} {ln:Nat} {seen:List Tx} (h:jn a w H c i bt) (p:bB w a.heap.size H.fb H.mc F V) (j:bg w a.heap.size H F R rows ln seen) (hm:cK a.heap.size H w w'):jn a w' H c i bt:=by
 obtain ⟨f,hf,q⟩:=h.tb
 obtain ⟨f1,hf1,_⟩:=j.sm
 obtain ⟨f2,s,_⟩:=j.tm
 obtain ⟨f3,A,_⟩:=p.cm
 have hn:=fun e (hl:([94,91,165,56,159,157,5]:List Nat).contains (e+2)=false)=>Wr.ne (B:=a.heap.size) (bX hf1) (bX s) (bX A) hl
 refine ⟨hm.au h.c2 (fun hk=>hn 22 (by decide) _ hk _ _ h.c2),hm.au h.c3 (fun hk=>hn 25 (by decide) _ hk _ _ h.c3),h.lo,⟨f,hf.md hm ?_,q⟩,h.ne,hm.wk h.wk (Nat.le_refl _)⟩
 rintro ⟨_,h1 | h1 | h1 | h1⟩
 · exact h.ne.1 h1
 · exact h.ne.2.1 h1
 · exact h.ne.2.2 h1
 · rw [bX hf] at h1; exact absurd h1 (by decide)
def wP (w':World) (B:Nat) (F:aG) (v:Value):Prop := ∃ fb mc V,v= .tuple #[.pointer (some ⟨fb,0,none⟩),.agg [.int .i64 0,.int .i64 0,.int .i64 0].toArray]∧bB w' B fb mc F V∧(∃ seen,fO F [] seen)∧Nx F
def wO (e:Nat×Nat) (v:Value):Prop :=v= .tuple #[.pointer none,.agg [.int .i64 1,.int .i64 (e.1:Nat),.int .i64 (e.2:Nat)].toArray]
def jQ (s:Tx) (w:World) (v:Value) (w':World):Prop :=(match fR s with | .ok F=>wP w' w.heap.size F v | .error e=>wO e v)∧Wk w w'
theorem jQ.no {s:Tx} {w w':World} {l e:Nat} (h:fR s= .error (l,e)) (hm:Wk w w'):jQ s w (.tuple #[.pointer none,.agg [.int .i64 1,.int .i64 (l:Nat),.int .i64 (e:Nat)].toArray]) w':=by
 unfold jQ; rw [h]; exact ⟨rfl,hm⟩
theorem kE {n:Nat} {G:List Nat} {fn:Func} {σ:Nat→Value} {s:Tx} {w W:World} {H:bd} {c i bt l e:Nat} (j:fn.results= #[.cell 2 22,.cell 3 25]) (hlt:3 < n) (p:σ 2= .pointer (some ⟨c,0,none⟩)) (q:σ 3= .pointer (some ⟨i,0,none⟩)) (a:jn w W H c i bt) (hx:fR s= .error (l,e)):qb ⟨n,[{target:= .fn (.func 31) #[.pointer (some ⟨c,0,none⟩),.pointer (some ⟨i,0,none⟩)],args:= #[]}],G,none⟩ (jO Tryz.prog fn (jQ s w)) (.panic (eB 25 l (e:Nat))) σ W:=
 ED j hlt p q ⟨_,a.c2⟩ ⟨_,rfl,a.c3⟩ a.lo.2.2 (fun w' hm=>jQ.no hx (a.wk.trans' hm (fun k hk h=>by rcases h with rfl | rfl; have :=a.lo.1; omega; have :=a.lo.2.1; omega)))
theorem AB {x:Nat} (h:x≠0):cQ dW x=false :=by
 unfold cQ dW dy
 simp [h]
theorem Wk.dr {w:World} :Wk w w.drew:=(Md.refl _ _).drew
theorem q7 (s:Tx) (w:World) (hs:s.length≤1048576):
 aT Tryz.prog 10 (List.toArray [str s]) w (jQ s w):=by
 refine A5 [2,3] Tryz.func10 rfl Tryz.ntmps10 rfl ?_
 refine dS ?_
 refine eD ?_
 refine rg rfl (e (fK GD fun an dX hb2 bU hB2=>e (fK jM fun ap w3 dA a0 ci=> ?_)))
 have hz2:=bU.size
 have hz3:=a0.size
 have cq:Wk w w3:=bU.md.trans a0.md
 have hp2:=Wk.au a0.md hB2
 refine nl (dY ?_)
 refine dS ?_
 refine eD ?_
 refine rg rfl (p (ao (str s) rfl) (e (cl r3 (vk s _ hs) rfl fun dM w15 cD=> ?_)))
 obtain ⟨⟨dp,rfl,hcs⟩,hE15⟩:=cD
 have hE15x:=cq.trans hE15
 have hq2:=Wk.au hE15 hp2
 have hq3:=Wk.au hE15 ci
 have hz15:=hE15.size
 refine p mv (p (xt rfl rfl) (p (xt rfl rfl) (p aw (p aw (nl (dY ?_))))))
 refine dS ?_
 refine dS ?_
 refine eD ?_
 refine rg rfl (p mv (p (ej rfl rfl) (nl (dY ?_))))
 refine eD ?_
 refine cd rfl (fun a9=> ?_) (fun a9=> ?_)
 have bY:65536 < s.length:=Classical.byContradiction fun h=>a9 (by rw [if_neg h])
 refine sq (fun b4 aU=>rg rfl (p mv (p (bT (ps:= [(0,.int .i64 1),(2,.int .i64 (if 65536 < s.length then 10 else 0))]) (L:= [.int .i64 1,.int .i64 0,.int .i64 (if 65536 < s.length then 10 else 0)]) kH rfl (rfl)) (e (c4 o8 rfl rfl (v:= .pointer none) rfl hq2 (by decide) fun w5 bR cn=>e (ga fy rfl rfl rfl rfl (bR.au hq3 (fun h=>by omega)) (by decide) fun w6 bS hB6=>nl (tn (aU _ _ ?_))))))))
 refine rt (qv ?_)
 exact Bo (nT rfl (hY (qw rfl rfl ((aQ (bS.au cn (fun h=>by omega))).trans rfl))) (hY (c7 rfl rfl rfl (fun j hj=>by rw [Nat.zero_add,aQ hB6,if_pos bY]; simp)))) (jQ.no (xh bY) ((hE15x.trans' bR (fun k hk h=>by omega)).trans' bS (fun k hk h=>by omega)))
 have ac:¬65536 < s.length:=fun h=>a9 (by rw [if_pos h]; decide)
 rw [if_neg ac] at hcs
 obtain ⟨vs,b2,cV⟩:=hcs
 obtain ⟨aM,aN,rfl⟩:=dw b2
 refine aA (dY ?_)
 refine dS ?_
 refine eD ?_
 refine rg rfl (p (ao (str s) rfl) (e (cl r4 (vD s _ hs) rfl fun dO b3 cE=> ?_)))
 obtain ⟨⟨dq,rfl,b0⟩,hE24⟩:=cE
 rw [if_neg ac] at b0
 obtain ⟨dH,ds,rfl⟩:=dw b0
 have hE24x:=hE15x.trans hE24
 have hll:=ky s
 have hz24:=hE24.size
 refine p mv (p (xt rfl rfl) (p (xt rfl rfl) (p aw (p aw (nl (dY ?_))))))
 refine dS ?_
 refine eD ?_
 refine rg rfl (e (mj fun J dZ dv bV cg=> ?_))
 have hz27:=bV.size
 refine p (bT (ps:= [(1,.map (some J))]) (L:= [.int .i64 0,.string ⟨⟨[]⟩⟩,.string ⟨⟨[]⟩⟩,.int .u16 0,.int .u16 0,.int .u16 0,.int .u16 0,.int .u16 0,.int .i64 0,.slice none 0 0,.slice none 0 0,.slice none 0 0,.slice none 0 0,.map (some J)]) FG rfl (rfl)) (e (oL rfl fun G w29 dy aZ ch=> ?_))
 have hz29:=aZ.size
 refine p mv (p mv (p (bl dT rfl rfl) (p (a8 (((bC s).length+1:Nat):Int) rfl rfl (aI (by omega) (by omega))) (e (mj fun O d0 dB aO cj=> ?_)))))
 have hz34:=aO.size
 refine e (mj fun U w35 dC aB ck=> ?_)
 have hz35:=aB.size
 refine p (bT (ps:= [(0,.pointer (some ⟨G,0,none⟩)),(1,.slice aM (cI s).length aN),(3,.int .i64 ((bC s).length+1:Nat)),(4,.map (some O)),(5,.map (some U))]) (L:= [.pointer (some ⟨G,0,none⟩),.slice aM (cI s).length aN,.int .i64 0,.int .i64 ((bC s).length+1:Nat),.map (some O),.map (some U),.slice none 0 0]) FH rfl (rfl)) (e (oL rfl fun A w37 dD av aS=> ?_))
 have hz37:=av.size
 have hf37:=Wk.au (aO.md.trans (aB.md.trans av.md)) ch
 refine p aw (nl (dY ?_))
 refine dS ?_
 refine eD ?_
 have aa:(fun w'=>Md (fun k=>k=G) w37 w') w37.drew:=(Md.refl _ _).drew
 refine bF (fun w'=>Md (fun k=>k=G) w37 w') rfl wide aa (hp 0 rfl (by kernel_rfl) (fun _ _=>mv) aa (hp 1 rfl (by kernel_rfl) (fun _ _=>nc rfl) aa (hp 2 rfl (by kernel_rfl) (fun _ _=>fa dI rfl) aa (hp 3 rfl (by kernel_rfl) (fun w' I=>ld dx rfl (Md.ay I ((aQ aS).trans rfl) (fun h=>by omega))) aa (hp 4 rfl (by kernel_rfl) (fun _ _=>mv) aa (hp 5 rfl (by kernel_rfl) (fun _ _=>nc rfl) aa (hp 6 rfl (by kernel_rfl) (fun _ _=>fa dI rfl) aa ?_)))))))
 refine hp 7 rfl (by kernel_rfl) (fun w' I=>ld dx rfl (Md.ay I ((aQ aS).trans rfl) (fun h=>by omega))) aa (hp 8 rfl (by kernel_rfl) (fun _ _=>nc rfl) aa (hp 9 rfl (by kernel_rfl) (fun _ _=>fa dz rfl) aa (hp 10 rfl (by kernel_rfl) (fun _ _=>fa lg rfl) aa (he 11 rfl (by kernel_rfl) (c4 iR rfl rfl (v:= .int .i64 (1:Nat)) rfl hf37 (by show 0 +0 +0 < 14; decide) fun w8 cA co=> ?_)))))
 have aC:(fun w'=>Md (fun k=>k=G) w37 w') w8:=aa.trans' cA (fun _ _ h=>h)
 refine ⟨aC,?_⟩
 refine hp 12 rfl (by kernel_rfl) (fun _ _=>nc rfl) aC (hp 13 rfl (by kernel_rfl) (fun _ _=>fa dz rfl) aC (hp 14 rfl (by kernel_rfl) (fun _ _=>fa pJ rfl) aC (he 15 rfl (by kernel_rfl) (c4 iR rfl rfl (v:= .int .i64 (3:Nat)) rfl co (by show _ < 14; decide) fun w9 hM9 cp=> ?_))))
 have a7:(fun w'=>Md (fun k=>k=G) w37 w') w9:=aC.trans' hM9 (fun _ _ h=>h)
 refine ⟨a7,?_⟩
 refine hn (by kernel_rfl) (dY ?_)
 refine dS ?_
 refine AJ Da #[.pointer (some ⟨an,0,none⟩),.pointer (some ⟨ap,0,none⟩)] rfl (by decide) ?_
 refine dS ?_
 refine eD ?_
 refine rg rfl (e (cl yH (Cs _) rfl fun dP w53 cF=> ?_))
 obtain ⟨bt,rfl,dF,c8,bH⟩:=cF
 have cr:Wk b3 w37:=bV.md.trans (aZ.md.trans (aO.md.trans (aB.md.trans av.md)))
 have ar:Md (fun k=>k=G) w37 w53:=a7.trans' bH (fun _ _ h=>h.elim)
 have az:Wk b3 w53:=Md.trans' cr ar (fun k hk h=>by omega)
 have hsz53:=ar.size
 have hE53x:=hE24x.trans az
 have cM:w53.heap[G]? =some (.cells (iT dW ⟨.slice none 0 0,.slice none 0 0,.slice none 0 0,.slice none 0 0,[],[]⟩ J).toArray 89 (0,0)):=Wk.au bH cp
 have hcr:w53.heap[A]? =some (.cells (mx (⟨A,G,O,U,J,(bC s).length+1⟩:bd) ⟨.slice aM (cI s).length aN,vs,.slice none 0 0⟩ 0).toArray 92 (0,0)):=ar.au aS (fun h=>by omega)
 have cQ:bf w53.heap J (jD .u16) (fun _=>none):=bf.md (bf.wk (bf.nil cg) (aZ.md.trans (aO.md.trans (aB.md.trans av.md)))) ar (fun h=>by omega)
 have cR:bf w53.heap O eC (fun _=>none):=bf.md (bf.wk (bf.nil cj) (aB.md.trans av.md)) ar (fun h=>by omega)
 have cS:bf w53.heap U (jD .u16) (fun _=>none):=bf.md (bf.wk (bf.nil ck) av.md) ar (fun h=>by omega)
 have cs:bB w53 w.heap.size G J dW ⟨.slice none 0 0,.slice none 0 0,.slice none 0 0,.slice none 0 0,[],[]⟩:=⟨cM,World.ownsRow_nil _ _ _ _,World.ownsRow_nil _ _ _ _,bM.nil _ _ _,World.ownsRow_nil _ _ _ _,World.ownsRow_nil _ _ _ _,bM.nil _ _ _,⟨_,cQ,fun _=>rfl⟩,⟨by omega,by omega⟩,rfl⟩
 have hR0:bg w53 w.heap.size (⟨A,G,O,U,J,(bC s).length+1⟩:bd) dW ⟨.slice aM (cI s).length aN,vs,.slice none 0 0⟩ (cI s) 0 []:=⟨hcr,(((Tg.fW b2).mono (by omega)).wk (hE24.trans az)).FR,(cV.mono (by omega)).wk (hE24.trans az),⟨_,cR,fun _=>rfl⟩,⟨_,cS,fun x hx=>by rw [AB hx]; rfl⟩,World.ownsRow_nil _ _ _ _,⟨by show w.heap.size≤A; omega,by show w.heap.size≤O; omega,by show w.heap.size≤U; omega⟩,⟨by show O≠U; omega,by show O≠J; omega,by show U≠J; omega⟩⟩
 have hrl:=vg s
 have cL:St w53 w.heap.size (⟨A,G,O,U,J,(bC s).length+1⟩:bd) dW (cI s) 0 []:=⟨_,_,cs,hR0,⟨by show 0 +0 +0 +0 +(cI s).length≤70000; omega,by show 0 +(cI s).length≤70000; omega,fun q bm=>by have h:=vj bm; exact ⟨h.2.2.1,by omega,fun x hx=>by have :=(h.2.2.2.2 x hx).2; omega⟩,.inl rfl,fun l hl=>by cases hl⟩⟩
 have c6:fj dW []:=fun k hk _=>by have h:∀ k∈dE,dW.sp.getD (dE.idxOf k) 0=0:=by decide
                                  exact h k hk
 have cT:Nx dW:=⟨fun l hl=>(by cases hl),fun l hl=>(by cases hl)⟩
 have hsz9:=a7.size
 have cU:jn w w53 (⟨A,G,O,U,J,(bC s).length+1⟩:bd) an ap bt:=⟨Wk.au (hE24.trans az) hq2,Wk.au (hE24.trans az) hq3,⟨by omega,by omega,by omega⟩,c8,⟨by show bt≠O; omega,by show bt≠U; omega,by show bt≠J; omega⟩,hE53x⟩
 refine p aw (nl (dY ?_))
 refine dS ?_
 refine eD ?_
 refine au (lp (fun bD aL wI=> ∃ (k:Nat) (F:aG) (rows:List Rw) (ln:Nat) (seen:List Tx),(fu (⟨A,G,O,U,J,(bC s).length+1⟩:bd).eof k F seen rows=fu ((bC s).length+1) (cI s).length dW [] (cI s))∧(rows.length≤k)∧(St wI w.heap.size (⟨A,G,O,U,J,(bC s).length+1⟩:bd) F rows ln seen)∧(fj F seen)∧(Nx F)∧(jn w wI (⟨A,G,O,U,J,(bC s).length+1⟩:bd) an ap bt)∧(aL 2= .pointer (some ⟨an,0,none⟩))∧(aL 3= .pointer (some ⟨ap,0,none⟩))∧(aL 8= .pointer (some ⟨A,0,none⟩))∧(aL 9= .map (some bt))∧(rows.length=bD)) _ ⟨(cI s).length,dW,cI s,0,[],rfl,(Nat.le_refl _),cL,c6,cT,cU,rfl,rfl,rfl,rfl,rfl⟩ ?_)
 rintro bD aL wI ⟨k,F,rows,ln,seen,hX,hk,I,aP,hnx,bk,cX,cY,cZ,c0,rfl⟩
 refine fx 2 cX (fx 3 cY (fx 8 cZ (fx 9 c0 ?_)))
 obtain ⟨V,R,M,ag,aq⟩:=I
 obtain ⟨vr,vs,vn⟩:=R
 obtain ⟨bx,cr1,hv⟩:=ag.rws.slice
 obtain rfl :vr= .slice bx rows.length cr1:=hv
 refine sq (fun b4 aU=>sq (fun dh ct=>rg rfl (p (ao (.pointer (some ⟨A,0,none⟩)) rfl) (p (nc rfl) (p (fa l9 rfl) (p (ld kU rfl ((aQ ag.cells).trans rfl)) (p (bl om rfl rfl) ?_)))))))
 refine p (gt rfl rfl) (nl (tn (ct _ _ (cd rfl (fun ba=> ?_) (fun ba=> ?_)))))
 obtain ⟨⟨n,r⟩,rest,rfl⟩:∃ q rest,rows=q::rest:=by
  cases rows with
  | nil=>exact absurd ba (by simp)
  | cons q rest=>exact ⟨q,rest,rfl⟩
 have hrow:=aq.row (n,r) (List.mem_cons_self ..)
 have hbl:=aq.len
 have hbs:=aq.sl
 simp only [List.length_cons] at hbl hbs hk
 refine aA (tn (aU _ _ (au (sq (fun di cu=>rg rfl (p (ao (.pointer (some ⟨A,0,none⟩)) rfl) (e (cl r5 (vJ w.heap.size (⟨A,G,O,U,J,(bC s).length+1⟩:bd) F ⟨.slice bx (rest.length+1) cr1,vs,vn⟩ n r rest ln seen wI ag) rfl fun dR df cG=> ?_))))))))
 obtain ⟨⟨R1,hR1⟩,hT1,hM1⟩:=cG
 obtain ⟨bw,bA,rfl⟩:=hT1.slice
 have hF1:=M.rb ag hM1
 have hob1:=bk.mw M ag (cK.rb ag hM1)
 have dG:0 < r.length:=List.length_pos_iff.2 hrow.1
 have hB1:=fO.k6 aq
 have hval:=Cq (r.getD 0 [])
 obtain ⟨du,cP,b1⟩:=hob1.tb
 refine p aw (nl (tn (cu _ _ (sq (fun dj cv=>rg rfl (p (ao (.map (some bt)) rfl) (p mv (p (aH bZ rfl rfl (by omega) (ak.ok (hT1.bN.2) (bG (by omega)))) ?_))))))))
 refine p (ld bQ rfl (bE.get (i:=0) hT1.bN.2 (by omega))) (p (uv gv GR ei (cP) rfl rfl (⟨_,rfl⟩) ((congrArg (fun o=>Option.getD o _) (b1 (r.getD 0 []))).trans hval.1) ((congrArg Option.isSome (b1 (r.getD 0 []))).trans hval.2)) (p mv (p (xt rfl rfl) (p (xt rfl rfl) (e (fK GL fun b8 w11 hb11 cB cb=>e (ga Am rfl rfl rfl (Cu _) cb (by decide) fun w12 cz cc=> ?_)))))))
 have hE12:Wk df w12:=cB.md.trans' cz (fun k hk h=>by omega)
 have hb12:w12.heap[b8]? =some (.cells [.int .i64 (width (r.getD 0 []):Nat),jZ (r.getD 0 [])].toArray 99 (0,0)):=cc
 have hF2:=hF1.wk hE12
 have hR2:=hR1.wk hE12
 have hT2:=hT1.wk hE12
 have hob2:=hob1.md hE12
 refine p aw (nl (tn (cv _ _ (sq (fun dk cw=>rg rfl (p (ao (.pointer (some ⟨A,0,none⟩)) rfl) (p mv ?_)))))))
 refine eP rfl (bz dN (dQ A n _ 110 w12 hR2.cy (by decide)) rfl fun dU dg cH=> ?_) (fun c w' Z ax M=>by
  obtain ⟨rfl,hb,rfl⟩:=Z
  exact kE rfl (by decide) ((M 2 (.head _)).trans rfl) ((M 3 (.tail _ (.head _))).trans rfl) hob2 (kS ac (EA hX hk (Classical.not_not.1 (of_decide_eq_false hb)))))
 obtain ⟨rfl,ab,rfl⟩:=cH
 have ab:width (r.getD 0 [])≠0:=of_decide_eq_true ab
 refine nl (tn (cw _ _ (sq (fun dl cx=>rg rfl (p (ao (.pointer (some ⟨A,0,none⟩)) rfl) (p mv (p (bl dT rfl rfl) (p (fa tB rfl) ?_))))))))
 refine p (ld eu rfl ((aQ hb12).trans rfl)) (p (bo rfl rfl) ?_)
 refine eP rfl (bz dN (dQ A n _ 111 dg hR2.cy (by decide)) rfl fun dV ah cJ=> ?_) (fun c w' Z ax M=>by
  obtain ⟨rfl,hb,rfl⟩:=Z
  exact kE rfl (by decide) ((M 2 (.head _)).trans rfl) ((M 3 (.tail _ (.head _))).trans rfl) hob2 (kS ac (EB hX hk ab (fun h=>of_decide_eq_false hb (by rw [h])))))
 obtain ⟨rfl,ad,rfl⟩:=cJ
 have ad:r.length=width (r.getD 0 []):=by have :=of_decide_eq_true ad; omega
 refine nl (tn (cx _ _ (sq (fun dm bK=> ?_))))
 obtain ⟨dK,c1,c5⟩:=hR2.sm
 have C:(fun w'=>Wk ah w') ah.drew:=(Md.refl _ _).drew
 refine bF (fun w'=>Wk ah w') rfl wide C (hp 0 rfl (by kernel_rfl) (fun _ _=>ao (.pointer (some ⟨A,0,none⟩)) rfl) C (hp 1 rfl (by kernel_rfl) (fun _ _=>fa tB rfl) C (hp 2 rfl (by kernel_rfl) (fun w' I=>ld eu rfl (Wk.ay I ((aQ hb12).trans rfl))) C (hp 3 rfl (by kernel_rfl) (fun _ _=>bo rfl rfl) C (hp 4 rfl (by kernel_rfl) (fun _ _=>mv) C (ir (t:=84) rfl (fun aF=> ?_) (fun aF=> ?_)))))))
 refine aV 5 rfl (by kernel_rfl) rfl rfl rfl rfl C ?_
 refine aV 6 rfl (by kernel_rfl) rfl rfl rfl rfl C ?_
 refine aV 7 rfl (by kernel_rfl) rfl rfl rfl rfl C ?_
 refine aV 8 rfl (by kernel_rfl) rfl rfl rfl rfl C ?_
 refine aV 9 rfl (by kernel_rfl) rfl rfl rfl rfl C ?_
 refine aV 10 rfl (by kernel_rfl) rfl rfl rfl rfl C ?_
 refine aV 11 rfl (by kernel_rfl) rfl rfl rfl rfl C ?_
 refine aV 12 rfl (by kernel_rfl) rfl rfl rfl rfl C ?_
 refine aV 13 rfl (by kernel_rfl) rfl rfl rfl rfl C ?_
 refine hp 14 rfl (by kernel_rfl) (fun _ _=>bu rfl) C ?_
 refine lk 15 rfl (by kernel_rfl) rfl (bz dN (dQ A n _ 112 ah.drew (Wk.ay C hR2.cy) (by decide)) rfl fun de w95 a5=> ?_) (fun c w' Z ax M=>by
  obtain ⟨rfl,hb,rfl⟩:=Z
  first
   | exact absurd hb (by decide)
   | exact kE rfl (by decide) ((M 2 (.head _)).trans rfl) ((M 3 (.tail _ (.head _))).trans rfl) (hob2.md Wk.dr) (kS ac (vb hX hk ab ad (fun h=>aF (by rw [h]; rfl)) (Classical.not_not.1 fun h=>of_decide_eq_false hb (by rw [List.count_eq_zero.2 h]; rfl)))))
 obtain ⟨rfl,bv,aJ⟩:=a5
 have ai:width (r.getD 0 [])=2→r.getD 0 []∉seen:=by
  first
   | exact fun h=>absurd aF (by omega)
   | exact fun _=>List.count_eq_zero.1 (by have :=of_decide_eq_true bv; omega)
 have hE95:Wk ah w95:=by rw [aJ]; exact Wk.dr
 obtain ⟨db,bj,bi⟩:=tO ab
 obtain ⟨b9,bs,bb,bh⟩:=tT w.heap.size (⟨A,G,O,U,J,(bC s).length+1⟩:bd) F rest n seen r w.heap.size bw bA w95 ⟨_,_,hF2.wk hE95,hR2.wk hE95,hB1⟩ (hT2.wk hE95) hrow.2.2 ad aP ai (by omega) bj
 have hfv:=bi _ _ bs
 have a6:(fun w'=>Wk ah w') w95:=by rw [aJ]; exact C
 refine ⟨a6,?_⟩
 refine hn (by kernel_rfl) (tn (bK _ _ (sq (fun b5 aW=>rg rfl (p (fa tC rfl) (p (ld rj rfl ((aQ (Wk.au hE95 hb12)).trans (congrArg some hfv))) (p (ao (.pointer (some ⟨A,0,none⟩)) rfl) (p mv ?_))))))))
 refine eP rfl (wj bb rfl bh rfl fun dd am a2=> ?_) (fun c w' Z ax M=>by
  obtain ⟨l,e,Y,rfl,hMw3⟩:=Z
  exact kE rfl (by decide) ((M 2 (.head _)).trans rfl) ((M 3 (.tail _ (.head _))).trans rfl) ((hob2.md hE95).mw (hF2.wk hE95) (hR2.wk hE95) hMw3) (kS ac (vc hX hk ab ad ai Y)))
 obtain ⟨rfl,F',aj,ln',Y,⟨b6,aR,hF3,hR3,ae⟩,hMw3⟩:=a2
 have hob3:=(hob2.md hE95).mw (hF2.wk hE95) (hR2.wk hE95) hMw3
 obtain ⟨q1,bp,_⟩:=hR2.sm
 obtain ⟨q2,bq,_⟩:=hR2.tm
 obtain ⟨dc,br,_⟩:=hF2.cm
 have hT3:=(hT2.wk hE95).md hMw3 (Wr.ne (bX (bp.wk hE95)) (bX (bq.wk hE95)) (bX (br.wk hE95)) (by decide))
 obtain ⟨ca,aD,aE⟩:=hR3.sm
 have hcl:=List.count_le_length (a:=r.getD 0 []) (l:=seen)
 have hXn:=vd hX hk ab ad ai Y
 refine nl (tn (aW _ _ ?_))
 have E:(fun w'=>Wk am w') am.drew:=(Md.refl _ _).drew
 refine da (fun w'=>Wk am w') 9 rfl wide E (lq 0 rfl (by kernel_rfl) (fun _ _=>ao (.pointer (some ⟨A,0,none⟩)) rfl) E (lq 1 rfl (by kernel_rfl) (fun _ _=>nc rfl) E (lq 2 rfl (by kernel_rfl) (fun _ _=>fa lj rfl) E (lq 3 rfl (by kernel_rfl) (fun w' I=>ld kV rfl (Wk.ay I ((aQ hR3.cells).trans rfl))) E (lq 4 rfl (by kernel_rfl) (fun _ _=>mv) E (lq 5 rfl (by kernel_rfl) (fun _ _=>aH bZ rfl rfl (by omega) (ak.ok (ak.wk hT3.bN.2 E) (bG (by omega)))) E (lq 6 rfl (by kernel_rfl) (fun w' I=>ld bQ rfl (Wk.ay I (bE.get (i:=0) hT3.bN.2 (by omega)))) E ?_)))))))
 refine lq 7 rfl (by kernel_rfl) (fun w' I=>iX j7 jj ei (bf.md (aD) I id) rfl rfl (⟨_,rfl⟩) (aE (r.getD 0 []))) E (lq 8 rfl (by kernel_rfl) (fun _ _=>a8 ((seen.count (r.getD 0 [])+1:Nat):Int) rfl rfl (aI (by omega) (by omega))) E (bJ 9 rfl (by kernel_rfl) (by kernel_rfl) (lI j7 ei (aD.wk E) rfl rfl rfl (⟨_,rfl⟩) fun aK aX a1=> ?_)))
 have hM16:=eW aX
 have a4:bg aK w.heap.size (⟨A,G,O,U,J,(bC s).length+1⟩:bd) F' aR aj ln' (seen++ [r.getD 0 []]):=bg.vq hR3 hM16 a1 (vt _ aE)
 have hF16:=bB.ms hF3 hR3 hM16
 have hob16:=hob3.mw hF3 hR3 (cK.ms hR3 hM16)
 have hrw:=me Y
 have E:St aK w.heap.size (⟨A,G,O,U,J,(bC s).length+1⟩:bd) F' aj ln' (seen++ [r.getD 0 []]):=⟨_,_,hF16,a4,⟨ae.len,by rw [List.length_append,List.length_singleton]; omega,ae.row,ae.kd,ae.al⟩⟩
 have hsp16:=tR aP Y
 have hnx16:=tQ hnx Y
 refine c9 (by kernel_rfl) ?_
 exact bn (tn (⟨_,by simp only [List.length_cons]; have :=me Y; omega,k - 1,F',aj,ln',seen++ [r.getD 0 []],hXn.1,hXn.2,E,hsp16,hnx16,hob16,rfl,rfl,rfl,rfl,rfl⟩))
 refine a3 5 rfl (by kernel_rfl) rfl rfl rfl (fun _ _=>ao (.pointer (some ⟨A,0,none⟩)) rfl) C (a3 6 rfl (by kernel_rfl) rfl rfl rfl (fun _ _=>nc rfl) C (a3 7 rfl (by kernel_rfl) rfl rfl rfl (fun _ _=>fa lj rfl) C (a3 8 rfl (by kernel_rfl) rfl rfl rfl (fun w' I=>ld kV rfl (Wk.ay I ((aQ hR2.cells).trans rfl))) C (a3 9 rfl (by kernel_rfl) rfl rfl rfl (fun _ _=>mv) C (a3 10 rfl (by kernel_rfl) rfl rfl rfl (fun _ _=>aH bZ rfl rfl (by omega) (ak.ok (ak.wk hT2.bN.2 C) (bG (by omega)))) C (a3 11 rfl (by kernel_rfl) rfl rfl rfl (fun w' I=>ld bQ rfl (Wk.ay I (bE.get (i:=0) hT2.bN.2 (by omega)))) C (a3 12 rfl (by kernel_rfl) rfl rfl rfl (fun w' I=>iX j7 jj ei (bf.md (c1) I id) rfl rfl (⟨_,rfl⟩) (c5 (r.getD 0 []))) C ?_)))))))
 refine a3 13 rfl (by kernel_rfl) rfl rfl rfl (fun _ _=>bo rfl rfl) C (hp 14 rfl (by kernel_rfl) (fun _ _=>bc rfl) C ?_)
 refine lk 15 rfl (by kernel_rfl) rfl (bz dN (dQ A n _ 112 ah.drew (Wk.ay C hR2.cy) (by decide)) rfl fun de w95 a5=> ?_) (fun c w' Z ax M=>by
  obtain ⟨rfl,hb,rfl⟩:=Z
  first
   | exact absurd hb (by decide)
   | exact kE rfl (by decide) ((M 2 (.head _)).trans rfl) ((M 3 (.tail _ (.head _))).trans rfl) (hob2.md Wk.dr) (kS ac (vb hX hk ab ad (fun h=>aF (by rw [h]; rfl)) (Classical.not_not.1 fun h=>of_decide_eq_false hb (by rw [List.count_eq_zero.2 h]; rfl)))))
 obtain ⟨rfl,bv,aJ⟩:=a5
 have ai:width (r.getD 0 [])=2→r.getD 0 []∉seen:=by
  first
   | exact fun h=>absurd aF (by omega)
   | exact fun _=>List.count_eq_zero.1 (by have :=of_decide_eq_true bv; omega)
 have hE95:Wk ah w95:=by rw [aJ]; exact Wk.dr
 obtain ⟨db,bj,bi⟩:=tO ab
 obtain ⟨b9,bs,bb,bh⟩:=tT w.heap.size (⟨A,G,O,U,J,(bC s).length+1⟩:bd) F rest n seen r w.heap.size bw bA w95 ⟨_,_,hF2.wk hE95,hR2.wk hE95,hB1⟩ (hT2.wk hE95) hrow.2.2 ad aP ai (by omega) bj
 have hfv:=bi _ _ bs
 have a6:(fun w'=>Wk ah w') w95:=by rw [aJ]; exact C
 refine ⟨a6,?_⟩
 refine hn (by kernel_rfl) (tn (bK _ _ (sq (fun b5 aW=>rg rfl (p (fa tC rfl) (p (ld rj rfl ((aQ (Wk.au hE95 hb12)).trans (congrArg some hfv))) (p (ao (.pointer (some ⟨A,0,none⟩)) rfl) (p mv ?_))))))))
 refine eP rfl (wj bb rfl bh rfl fun dd am a2=> ?_) (fun c w' Z ax M=>by
  obtain ⟨l,e,Y,rfl,hMw3⟩:=Z
  exact kE rfl (by decide) ((M 2 (.head _)).trans rfl) ((M 3 (.tail _ (.head _))).trans rfl) ((hob2.md hE95).mw (hF2.wk hE95) (hR2.wk hE95) hMw3) (kS ac (vc hX hk ab ad ai Y)))
 obtain ⟨rfl,F',aj,ln',Y,⟨b6,aR,hF3,hR3,ae⟩,hMw3⟩:=a2
 have hob3:=(hob2.md hE95).mw (hF2.wk hE95) (hR2.wk hE95) hMw3
 obtain ⟨q1,bp,_⟩:=hR2.sm
 obtain ⟨q2,bq,_⟩:=hR2.tm
 obtain ⟨dc,br,_⟩:=hF2.cm
 have hT3:=(hT2.wk hE95).md hMw3 (Wr.ne (bX (bp.wk hE95)) (bX (bq.wk hE95)) (bX (br.wk hE95)) (by decide))
 obtain ⟨ca,aD,aE⟩:=hR3.sm
 have hcl:=List.count_le_length (a:=r.getD 0 []) (l:=seen)
 have hXn:=vd hX hk ab ad ai Y
 refine nl (tn (aW _ _ ?_))
 have E:(fun w'=>Wk am w') am.drew:=(Md.refl _ _).drew
 refine da (fun w'=>Wk am w') 9 rfl wide E (lq 0 rfl (by kernel_rfl) (fun _ _=>ao (.pointer (some ⟨A,0,none⟩)) rfl) E (lq 1 rfl (by kernel_rfl) (fun _ _=>nc rfl) E (lq 2 rfl (by kernel_rfl) (fun _ _=>fa lj rfl) E (lq 3 rfl (by kernel_rfl) (fun w' I=>ld kV rfl (Wk.ay I ((aQ hR3.cells).trans rfl))) E (lq 4 rfl (by kernel_rfl) (fun _ _=>mv) E (lq 5 rfl (by kernel_rfl) (fun _ _=>aH bZ rfl rfl (by omega) (ak.ok (ak.wk hT3.bN.2 E) (bG (by omega)))) E (lq 6 rfl (by kernel_rfl) (fun w' I=>ld bQ rfl (Wk.ay I (bE.get (i:=0) hT3.bN.2 (by omega)))) E ?_)))))))
 refine lq 7 rfl (by kernel_rfl) (fun w' I=>iX j7 jj ei (bf.md (aD) I id) rfl rfl (⟨_,rfl⟩) (aE (r.getD 0 []))) E (lq 8 rfl (by kernel_rfl) (fun _ _=>a8 ((seen.count (r.getD 0 [])+1:Nat):Int) rfl rfl (aI (by omega) (by omega))) E (bJ 9 rfl (by kernel_rfl) (by kernel_rfl) (lI j7 ei (aD.wk E) rfl rfl rfl (⟨_,rfl⟩) fun aK aX a1=> ?_)))
 have hM16:=eW aX
 have a4:bg aK w.heap.size (⟨A,G,O,U,J,(bC s).length+1⟩:bd) F' aR aj ln' (seen++ [r.getD 0 []]):=bg.vq hR3 hM16 a1 (vt _ aE)
 have hF16:=bB.ms hF3 hR3 hM16
 have hob16:=hob3.mw hF3 hR3 (cK.ms hR3 hM16)
 have hrw:=me Y
 have E:St aK w.heap.size (⟨A,G,O,U,J,(bC s).length+1⟩:bd) F' aj ln' (seen++ [r.getD 0 []]):=⟨_,_,hF16,a4,⟨ae.len,by rw [List.length_append,List.length_singleton]; omega,ae.row,ae.kd,ae.al⟩⟩
 have hsp16:=tR aP Y
 have hnx16:=tQ hnx Y
 refine c9 (by kernel_rfl) ?_
 exact bn (tn (⟨_,by simp only [List.length_cons]; have :=me Y; omega,k - 1,F',aj,ln',seen++ [r.getD 0 []],hXn.1,hXn.2,E,hsp16,hnx16,hob16,rfl,rfl,rfl,rfl,rfl⟩))
 obtain rfl :rows= []:=by
  cases rows with
  | nil=>rfl
  | cons q rest=>exact absurd (by simp only [List.length_cons]; omega) ba
 rw [EC] at hX
 refine ext (te _ (te _ (be (dY ?_))))
 refine dS ?_
 refine eD ?_
 refine rg rfl (p (ao (.pointer (some ⟨A,0,none⟩)) rfl) ?_)
 refine eP rfl (bz yI (zd w.heap.size (⟨A,G,O,U,J,(bC s).length+1⟩:bd) F [] ln seen wI ⟨_,_,M,ag,aq⟩ hnx.2) rfl fun dL w111 cC=> ?_) (fun c w' Z ax bI=>by
  obtain ⟨q,bm,rfl,aY⟩:=Z
  exact kE rfl (by decide) ((bI 2 (.head _)).trans rfl) ((bI 3 (.tail _ (.head _))).trans rfl) (bk.mw M ag aY) (xg ac hX.symm bm))
 obtain ⟨rfl,cN,⟨b7,dn,dJ,hF4,hR4⟩,aY⟩:=cC
 have hob4:=bk.mw M ag aY
 have hlo4:=hob4.lo
 refine nl (dY ?_)
 refine dS ?_
 refine eD ?_
 refine rg rfl (p (ao (.pointer (some ⟨A,0,none⟩)) rfl) (p (nc rfl) (p (fa dI rfl) (p (ld dx rfl ((aQ hR4.cells).trans rfl)) (p (bT (ps:= []) (L:= [.int .i64 0,.int .i64 0,.int .i64 0]) kH rfl (rfl)) (e (c4 o8 rfl rfl (v:= .pointer (some ⟨G,0,none⟩)) rfl hob4.c2 (by decide) fun w20 bL ce=>e (ga fy rfl rfl rfl rfl (bL.au hob4.c3 (fun h=>by omega)) (by decide) fun w21 bO cf=> ?_))))))))
 have bP:Md (fun k=>k=an∨k=ap) w111 w21:=(bL.mono (fun _ _ h=> .inl h)).trans' bO (fun _ _ h=> .inr h)
 refine nl (dY ?_)
 refine qy ?_
 have bW:TF w111 [24,27] (fun k=>k=an∨k=ap):=TF.or (TF.eq (cW hob4.c2) (by decide)) (TF.eq (cW hob4.c3) (by decide))
 obtain ⟨dt,cO,_⟩:=hF4.cm
 have hF5:=hF4.md bP bW (by decide) (bW.no (bX cO) (by decide))
 exact EE rfl (by decide) rfl rfl (bO.au ce (fun h=>by omega)) cf rfl (fun w' hm=>by
  unfold jQ
  rw [xi ac hX.symm cN]
  exact ⟨⟨G,J,b7,rfl,hF5.wk hm,⟨seen,aq⟩,hnx⟩,(hob4.wk.trans' bP (fun k hk h=>by omega)).trans hm⟩)
end Go.Hb.kN
end
section
set_option maxRecDepth 20000
set_option maxHeartbeats 1000000
namespace Go.Hb.q6
open Go.Hb.cJ
open Go.Proofs
open Go.Hb.ib
theorem Ew (s:List UInt8) (w:World) (hs:s.length≤1048576):
 aT Tryz.prog 52 (List.toArray [str s]) w (fun v w'=>v= .bool (dB s)∧Wk w w'):=by
 refine enter Tryz.func52 rfl Tryz.ntmps52 rfl ?_
 refine ab (fun _ G=>(ag (((G _ _ (sq (fun _ I=>ab (fun _ J=> ?_))))))))
 refine ag (((J _ _ (au (lp (fun E A wI=> ∃ (i:Nat),(i≤s.length)∧(∀ j,j < i→dX (s.getD j 0)=true)∧(Wk w wI)∧(A 0=str s)∧(A 3= .int .i64 i)∧(s.length - i=E)) _ ⟨0,(by omega),((fun j hj=>by omega)),(Md.refl _ _),rfl,rfl,rfl⟩ ?_)))))
 rintro E A wI ⟨i,hi,hp,a,Z,aa,rfl⟩
 refine fx 0 Z (fx 3 aa (sq (fun _ M=>ab (fun _ O=>(ae (.int .i64 i) (ae (str s) (p (bV u9 rfl rfl) (p (lt rfl rfl) ?_))))))))
 refine aj ((O _ _ (cd rfl (fun V=> ?_) (fun V=> ?_))))
 refine aA (tn (M _ _ (sq (fun _ c=>au (ab (fun _ C=>(ae (str s) (ae (.int .i64 i) ?_))))))))
 refine p (eY u9 rfl rfl (by omega)) (p (lt rfl rfl) (p mv (gs (t:=14) rfl (fun Y=> ?_) (fun Y=> ?_))))
 refine sk rfl rfl rfl rfl (sk rfl rfl rfl rfl (sk rfl rfl rfl rfl (sk rfl rfl rfl rfl (p (bu rfl) (aj ((C _ _ (ct rfl ?_))))))))
 refine ab (fun _ q=>(ag (((q _ _ (rt (br (tr ?_))))))))
 exact tr (br (tr (f1 rfl rfl (⟨by show Value.bool false =_; rw [kZ (i:=i) (by omega) (pB (by omega))],a⟩))))
 refine pg rfl rfl rfl (ao (str s) rfl) (pg rfl rfl rfl (ao (.int .i64 i) rfl) (pg rfl rfl rfl (eY u9 rfl rfl (by omega)) (pg rfl rfl rfl (bo rfl rfl) (p (bc rfl) (aj ((C _ _ (cd rfl (fun U=> ?_) (fun U=> ?_)))))))))
 refine ab (fun _ q=>(ag (((q _ _ (rt (br (tr ?_))))))))
 exact tr (br (tr (f1 rfl rfl (⟨by show Value.bool false =_; rw [kZ (i:=i) (by omega) (pB (by omega))],a⟩))))
 have hx:dX (s.getD i 0)=true :=Bz (by omega) (by omega)
 refine aA (bn (tn (c _ _ (rg rfl (ae (.int .i64 i) (p (ad rfl rfl (bp (by omega))) (p aw (nl ?_))))))))
 exact tn (⟨_,by omega,i+1,(by omega),((fun j hj=>by rcases Nat.lt_or_ge j i with h | h <;> first | exact hp j h | (rw [show j=i by omega]; exact hx))),a,rfl,rfl,rfl⟩)
 refine ext (te _ (te _ (be (tn (I _ _ (ab (fun _ c=>(p aw ?_))))))))
 exact aj ((c _ _ (rt (f1 rfl rfl (⟨by show Value.bool true =_; rw [lW (fun j hj=>hp j (by omega))],a⟩)))))
theorem E5 (s:List UInt8) (w:World) (hs:s.length≤1048576):
 aT Tryz.prog 27 (List.toArray [str s]) w (fun v w'=>v= .bool (eX s)∧Wk w w'):=by
 refine enter Tryz.func27 rfl Tryz.ntmps27 rfl ?_
 refine ab (fun _ i=>(ag (((i _ _ (sq (fun _ j=>ab (fun _ c=> ?_))))))))
 refine ae (str s) (p (bV u9 rfl rfl) (p (lt rfl rfl) (p mv (gs (t:=6) rfl (fun hg6=> ?_) (fun hg6=> ?_)))))
 refine sk rfl rfl rfl rfl (sk rfl rfl rfl rfl (sk rfl rfl rfl rfl (p (bu rfl) (aj ((c _ _ (ct rfl (sq (fun _ a=> ?_)))))))))
 exact rg rfl (ag (((a _ _ (rt (tr (f1 rfl rfl (⟨by show Value.bool false =_; unfold eX; rw [decide_eq_false (by omega)],Md.refl _ _⟩))))))))
 refine pg rfl rfl rfl (ao (str s) rfl) (pg rfl rfl rfl (bV u9 rfl rfl) (pg rfl rfl rfl (gt rfl rfl) (p (bc rfl) (aj ((c _ _ (cd rfl (fun hc10=> ?_) (fun hc10=> ?_))))))))
 refine ab (fun _ a=>(ag (((a _ _ (rt (tr (f1 rfl rfl ?_))))))))
 exact ⟨by show Value.bool false =_; unfold eX; rw [decide_eq_false (by omega)],Md.refl _ _⟩
 refine aA (tn (j _ _ (ab (fun _ a=>(ae (str s) (e (cl yO (Ew s _ hs) rfl fun dd w12 q=> ?_)))))))
 obtain ⟨rfl,hE12⟩:=q
 exact ag (((a _ _ (rt (f1 rfl rfl (⟨by show Value.bool (dB s)=_; unfold eX; cases h:dB s <;> simp <;> omega,hE12⟩))))))
end Go.Hb.q6
end
section
set_option maxRecDepth 20000
set_option maxHeartbeats 1000000
namespace Go.Hb.jP
open Go.Hb.cJ
open Go.Proofs
open Go.Hb.eM Go.Hb.fg Go.Hb.fF Go.Hb.iG Go.Hb.fH
def gi (F:aG) (V:c5):List Value:= [.int .i64 (F.kind:Nat),str F.lY,str F.tr,az (F.sp.getD 0 0),az (F.sp.getD 1 0),az (F.sp.getD 2 0),az (F.sp.getD 3 0),az (F.sp.getD 4 0),.int .i64 (F.least:Nat),V.v9,V.v10,V.v11,V.dd]
structure wS (w:World) (B:Nat) (F:aG) (V:c5):Prop where
 o9:World.ownsRow w B 163 2 V.v9 F.bH.length (iz F.bH)
 eK:World.ownsRow w B 54 1 V.v10 F.aliases.length V.sa
 al:bM w B 71 V.sa F.aliases
 dZ:World.ownsRow w B 157 5 V.v11 F.a6.length (g6 F.a6)
 dJ:World.ownsRow w B 155 7 V.dd F.rules.length (eL (F.rules.zip V.rn))
 nx:bM w B 71 V.rn (F.rules.map (·.next))
theorem oI {w:World} {B e:Nat} {vs:List Value} {ls:List (List Nat)} (h:bM w B e vs ls):vs.all Value.oneCell'=true :=by
 rw [List.all_eq_true]
 intro v hv
 obtain ⟨i,hi⟩:=List.getElem?_of_mem hv
 have h1:=(List.getElem?_eq_some_iff.1 hi).1
 obtain ⟨u,hu,hT⟩:=bM.get h (i:=i) (by rw [← h.1]; exact h1)
 rw [hi] at hu; cases hu
 obtain ⟨a,c,rfl⟩:=hT.slice; rfl
theorem EZ {w:World} {B e:Nat} {rs:List eI} {vs:List Value} {ls:List (List Nat)} (h:bM w B e vs ls):(eL (rs.zip vs)).all Value.oneCell'=true :=by
 rw [List.all_eq_true]
 intro v hv
 obtain ⟨q,a,hv⟩:=List.mem_flatMap.1 hv
 have h1:=List.all_eq_true.1 (oI h) q.2 (List.of_mem_zip a).2
 simp only [fY,List.mem_cons,List.not_mem_nil,or_false] at hv
 rcases hv with rfl | rfl | rfl | rfl | rfl | rfl | rfl <;> first | rfl | exact h1
theorem E0 {rs:List eI} {vs:List Value} {i:Nat} {v:Value} (hi:i < rs.length) (hv:i < vs.length):(eL (rs.zip vs)).set (i*7 +6) v=eL (rs.zip (vs.set i v)):=by
 obtain ⟨r,hr⟩:∃ r,rs[i]? =some r:=⟨_,List.getElem?_eq_getElem hi⟩
 obtain ⟨u,hu⟩:∃ u,vs[i]? =some u:=⟨_,List.getElem?_eq_getElem hv⟩
 have hz:(rs.zip vs)[i]? =some (r,u):=List.getElem?_zip_eq_some.2 ⟨hr,hu⟩
 have hz2:rs.zip (vs.set i v)=(rs.zip vs).set i (r,v):=by
  apply List.ext_getElem?
  intro j
  rw [List.getElem?_set]
  by_cases hj:i=j
  · subst hj
    rw [if_pos rfl,if_pos (List.getElem?_eq_some_iff.1 hz).1]
    exact List.getElem?_zip_eq_some.2 ⟨hr,by simp [hv]⟩
  · rw [if_neg hj]
    cases h1:(rs.zip vs)[j]? with
    | none=>
      rw [List.getElem?_eq_none_iff,List.length_zip] at h1 ⊢
      rw [List.length_set]; exact h1
    | some q=>
      have h2:=List.getElem?_zip_eq_some.1 h1
      exact List.getElem?_zip_eq_some.2 ⟨h2.1,by rw [List.getElem?_set,if_neg hj]; exact h2.2⟩
 have hl:(rs.zip vs).length=min rs.length vs.length:=List.length_zip
 have hc:(eL (rs.zip vs)).length=(rs.zip vs).length*7:=jX (f:=fY) (m:=7) (fun _=>rfl) _
 rw [hz2,show eL ((rs.zip vs).set i (r,v))=(eL (rs.zip vs)).take (i*7)++fY (r,v)++(eL (rs.zip vs)).drop (i*7 +7) from tt (f:=fY) (m:=7) (fun _=>rfl) _ (by omega)]
 apply List.ext_getElem?
 intro j
 have hf:=fun c hc=>pD (f:=fY) (m:=7) (fun _=>rfl) (c:=c) hz hc
 have hg:∀ c,c < 7→(eL (rs.zip vs))[i*7 +c]? =(fY (r,u))[c]? :=fun c h=>hf c h
 have htl:((eL (rs.zip vs)).take (i*7)).length=i*7:=by rw [List.length_take,hc]; omega
 rw [List.getElem?_set]
 by_cases h1:j < i*7
 · rw [if_neg (by omega),List.append_assoc,List.getElem?_append_left (by omega),List.getElem?_take,if_pos h1]
 · rw [List.append_assoc,List.getElem?_append_right (by omega),htl]
   by_cases h2:j < i*7 +7
   · rw [List.getElem?_append_left (by show _ < 7; omega)]
     obtain ⟨c,rfl⟩:∃ c,j=i*7 +c:=⟨j - i*7,by omega⟩
     have h3:c < 7:=by omega
     rw [hg c h3,show i*7 +c - i*7=c by omega]
     match c,h3 with
     | 0,_=>rw [if_neg (by omega)]; rfl
     | 1,_=>rw [if_neg (by omega)]; rfl
     | 2,_=>rw [if_neg (by omega)]; rfl
     | 3,_=>rw [if_neg (by omega)]; rfl
     | 4,_=>rw [if_neg (by omega)]; rfl
     | 5,_=>rw [if_neg (by omega)]; rfl
     | 6,_=>rw [if_pos rfl,if_pos (by omega)]; rfl
   · rw [if_neg (by omega),List.getElem?_append_right (by show 7≤_; omega),show (fY (r,v)).length=7 from rfl,List.getElem?_drop]
     congr 1; omega
theorem vl {l:List (eI×Value)} {i:Nat} {q:eI×Value} (h:l[i]? =some q):eL l≠[]:=fun h2=>by
 have h3:(eL l).length=l.length*7:=jX (f:=fY) (m:=7) (fun _=>rfl) _
 have h4:=(List.getElem?_eq_some_iff.1 h).1
 rw [h2] at h3
 have h5:0=l.length*7:=h3
 omega
theorem rB {F:aG} {V:c5} (h9:V.v9.oneCell'=true) (a:V.v10.oneCell'=true) (c:V.v11.oneCell'=true) (i:V.dd.oneCell'=true):(gi F V).all Value.oneCell'=true :=by
 rw [List.all_eq_true]
 intro v hv
 simp only [gi,List.mem_cons,List.not_mem_nil,or_false] at hv
 rcases hv with rfl | rfl | rfl | rfl | rfl | rfl | rfl | rfl | rfl | rfl | rfl | rfl | rfl <;> first | rfl | assumption
theorem xH {w:World} {B fb mc:Nat} {F:aG} {V:c5} (h:bB w B fb mc F V):(gi F V).all Value.oneCell'=true :=rB (dA h.o9) (dA h.eK) (dA h.dZ) (dA h.dJ)
theorem pj {α:Type} {l m:List α} {i:Nat} (h:l.drop i=m.drop i):l[i]? =m[i]? :=by
 have h1:=congrArg (·[0]?) h
 simpa using h1
theorem qz {α:Type} {l:List α} {i:Nat} {x:α} (h:i < l.length):(l.set i x).take (i+1)=l.take i++ [x]:=by
 rw [List.take_add_one,List.take_set_of_le (Nat.le_refl i)]; simp [h]
theorem set_drop {α:Type} {l m:List α} {i:Nat} {x:α} (h:l.drop i=m.drop i):(l.set i x).drop (i+1)=m.drop (i+1):=by
 rw [List.drop_set_of_lt (Nat.lt_succ_self i),show i.succ=i+1 from rfl]
 simpa [List.drop_drop] using congrArg (List.drop 1) h
theorem rr {w:World} {B e i:Nat} {vs:List Value} {ls:List (List Nat)} {v:Value} (h:bM w B e (vs.take i) (ls.take i)) (hi:i < ls.length) (hv:i < vs.length) (hT:Tg w B e (ls.getD i []).length v ((ls.getD i []).map az)):bM w B e ((vs.set i v).take (i+1)) (ls.take (i+1)):=by
 rw [qz hv,gU ls i [] hi]; exact h.snoc hT
theorem zx (a:Option Addr) (n c:Nat) (xs:List Value) (w:World) (hC:ak w.heap a xs) (hxl:xs.length=n*2) (ha:a=none→n=0) (h1:xs.all Value.oneCell'=true) (hn:n≤1048576):
 aT Tryz.prog 69 (List.toArray [.slice a n c]) w (fun v' w'=>World.ownsRow w' w.heap.size 163 2 v' n xs∧Wk w w'):=by
 refine enter Tryz.func69 rfl Tryz.ntmps69 rfl ?_
 refine ab (fun _ s=>(ag (((s _ _ (sq (fun _ A=>ab (fun _ C=> ?_))))))))
 refine ae (.slice a n c) (p (k8 F5 rfl rfl) (aj ((C _ _ (cb rfl (fun q=> ?_) (fun q=> ?_))))))
 have I:a=none:=by simpa using q
 refine ab (fun _ i=>(ag (((i _ _ (rt (tr (f1 rfl rfl ?_))))))))
 have hn0:=ha I
 subst hn0
 obtain rfl :=List.eq_nil_of_length_eq_zero (show xs.length=0 by omega)
 exact ⟨World.ownsRow_nil _ _ _ _,Md.refl _ _⟩
 refine aA (tn (A _ _ (ab (fun _ i=>(e (jU n5 fun O w5 hb5 j E=> ?_))))))
 have ho5:=E w.heap.size (by omega)
 refine ae (.slice a n c) (e (ap n5 (ho5) rfl (by have :=j.size; omega) rfl (hC.wk j.md) (hxl) (h1) (by omega) (by omega) fun M w7 J G hz7 U=> ?_))
 have hE7:=Wk.own j.md ho5 G (Nat.le_refl _)
 refine ag (((i _ _ (rt (f1 rfl rfl ?_)))))
 have hz:World.ownsRow w7 w.heap.size 163 2 M n xs:=by simpa using J
 exact ⟨hz,hE7⟩
theorem zw (v:Value) (n:Nat) (xs:List Value) (w:World) (hv:Rd w.heap v n 2 xs) (h1:xs.all Value.oneCell'=true) (hn:n≤1048576):aT Tryz.prog 69 [v].toArray w (fun v w'=>World.ownsRow w' w.heap.size 163 2 v n xs∧Wk w w'):=by
 obtain ⟨a,c,rfl,hC,hxl,ha⟩:=hv
 exact zx a n c xs w hC hxl ha h1 hn
theorem zr (a:Option Addr) (n c:Nat) (xs:List Value) (w:World) (hC:ak w.heap a xs) (hxl:xs.length=n*5) (ha:a=none→n=0) (h1:xs.all Value.oneCell'=true) (hn:n≤1048576):
 aT Tryz.prog 70 (List.toArray [.slice a n c]) w (fun v' w'=>World.ownsRow w' w.heap.size 157 5 v' n xs∧Wk w w'):=by
 refine enter Tryz.func70 rfl Tryz.ntmps70 rfl ?_
 refine ab (fun _ s=>(ag (((s _ _ (sq (fun _ A=>ab (fun _ C=> ?_))))))))
 refine ae (.slice a n c) (p (k8 vT rfl rfl) (aj ((C _ _ (cb rfl (fun q=> ?_) (fun q=> ?_))))))
 have I:a=none:=by simpa using q
 refine ab (fun _ i=>(ag (((i _ _ (rt (tr (f1 rfl rfl ?_))))))))
 have hn0:=ha I
 subst hn0
 obtain rfl :=List.eq_nil_of_length_eq_zero (show xs.length=0 by omega)
 exact ⟨World.ownsRow_nil _ _ _ _,Md.refl _ _⟩
 refine aA (tn (A _ _ (ab (fun _ i=>(e (jU n7 fun O w5 hb5 j E=> ?_))))))
 have ho5:=E w.heap.size (by omega)
 refine ae (.slice a n c) (e (ap n7 (ho5) rfl (by have :=j.size; omega) rfl (hC.wk j.md) (hxl) (h1) (by omega) (by omega) fun M w7 J G hz7 U=> ?_))
 have hE7:=Wk.own j.md ho5 G (Nat.le_refl _)
 refine ag (((i _ _ (rt (f1 rfl rfl ?_)))))
 have hz:World.ownsRow w7 w.heap.size 157 5 M n xs:=by simpa using J
 exact ⟨hz,hE7⟩
theorem zq (v:Value) (n:Nat) (xs:List Value) (w:World) (hv:Rd w.heap v n 5 xs) (h1:xs.all Value.oneCell'=true) (hn:n≤1048576):aT Tryz.prog 70 [v].toArray w (fun v w'=>World.ownsRow w' w.heap.size 157 5 v n xs∧Wk w w'):=by
 obtain ⟨a,c,rfl,hC,hxl,ha⟩:=hv
 exact zr a n c xs w hC hxl ha h1 hn
theorem zB (a:Option Addr) (n c:Nat) (xs:List Value) (w:World) (hC:ak w.heap a xs) (hxl:xs.length=n*1) (ha:a=none→n=0) (h1:xs.all Value.oneCell'=true) (hn:n≤1048576):
 aT Tryz.prog 71 (List.toArray [.slice a n c]) w (fun v' w'=>World.ownsRow w' w.heap.size 54 1 v' n xs∧Wk w w'):=by
 refine enter Tryz.func71 rfl Tryz.ntmps71 rfl ?_
 refine ab (fun _ s=>(ag (((s _ _ (sq (fun _ A=>ab (fun _ C=> ?_))))))))
 refine ae (.slice a n c) (p (k8 oo rfl rfl) (aj ((C _ _ (cb rfl (fun q=> ?_) (fun q=> ?_))))))
 have I:a=none:=by simpa using q
 refine ab (fun _ i=>(ag (((i _ _ (rt (tr (f1 rfl rfl ?_))))))))
 have hn0:=ha I
 subst hn0
 obtain rfl :=List.eq_nil_of_length_eq_zero (show xs.length=0 by omega)
 exact ⟨World.ownsRow_nil _ _ _ _,Md.refl _ _⟩
 refine aA (tn (A _ _ (ab (fun _ i=>(e (jU n6 fun O w5 hb5 j E=> ?_))))))
 have ho5:=E w.heap.size (by omega)
 refine ae (.slice a n c) (e (ap n6 (ho5) rfl (by have :=j.size; omega) rfl (hC.wk j.md) (hxl) (h1) (by omega) (by omega) fun M w7 J G hz7 U=> ?_))
 have hE7:=Wk.own j.md ho5 G (Nat.le_refl _)
 refine ag (((i _ _ (rt (f1 rfl rfl ?_)))))
 have hz:World.ownsRow w7 w.heap.size 54 1 M n xs:=by simpa using J
 exact ⟨hz,hE7⟩
theorem zA (v:Value) (n:Nat) (xs:List Value) (w:World) (hv:Rd w.heap v n 1 xs) (h1:xs.all Value.oneCell'=true) (hn:n≤1048576):aT Tryz.prog 71 [v].toArray w (fun v w'=>World.ownsRow w' w.heap.size 54 1 v n xs∧Wk w w'):=by
 obtain ⟨a,c,rfl,hC,hxl,ha⟩:=hv
 exact zB a n c xs w hC hxl ha h1 hn
theorem zz (a:Option Addr) (n c:Nat) (xs:List Value) (w:World) (hC:ak w.heap a xs) (hxl:xs.length=n*7) (ha:a=none→n=0) (h1:xs.all Value.oneCell'=true) (hn:n≤1048576):
 aT Tryz.prog 72 (List.toArray [.slice a n c]) w (fun v' w'=>World.ownsRow w' w.heap.size 155 7 v' n xs∧Wk w w'):=by
 refine enter Tryz.func72 rfl Tryz.ntmps72 rfl ?_
 refine ab (fun _ s=>(ag (((s _ _ (sq (fun _ A=>ab (fun _ C=> ?_))))))))
 refine ae (.slice a n c) (p (k8 oq rfl rfl) (aj ((C _ _ (cb rfl (fun q=> ?_) (fun q=> ?_))))))
 have I:a=none:=by simpa using q
 refine ab (fun _ i=>(ag (((i _ _ (rt (tr (f1 rfl rfl ?_))))))))
 have hn0:=ha I
 subst hn0
 obtain rfl :=List.eq_nil_of_length_eq_zero (show xs.length=0 by omega)
 exact ⟨World.ownsRow_nil _ _ _ _,Md.refl _ _⟩
 refine aA (tn (A _ _ (ab (fun _ i=>(e (jU n8 fun O w5 hb5 j E=> ?_))))))
 have ho5:=E w.heap.size (by omega)
 refine ae (.slice a n c) (e (ap n8 (ho5) rfl (by have :=j.size; omega) rfl (hC.wk j.md) (hxl) (h1) (by omega) (by omega) fun M w7 J G hz7 U=> ?_))
 have hE7:=Wk.own j.md ho5 G (Nat.le_refl _)
 refine ag (((i _ _ (rt (f1 rfl rfl ?_)))))
 have hz:World.ownsRow w7 w.heap.size 155 7 M n xs:=by simpa using J
 exact ⟨hz,hE7⟩
theorem zy (v:Value) (n:Nat) (xs:List Value) (w:World) (hv:Rd w.heap v n 7 xs) (h1:xs.all Value.oneCell'=true) (hn:n≤1048576):aT Tryz.prog 72 [v].toArray w (fun v w'=>World.ownsRow w' w.heap.size 155 7 v n xs∧Wk w w'):=by
 obtain ⟨a,c,rfl,hC,hxl,ha⟩:=hv
 exact zz a n c xs w hC hxl ha h1 hn
theorem zu (a:Option Addr) (n c:Nat) (xs:List Value) (w:World) (hC:ak w.heap a xs) (hxl:xs.length=n*2) (ha:a=none→n=0) (h1:xs.all Value.oneCell'=true) (hn:n≤1048576):
 aT Tryz.prog 48 (List.toArray [.slice a n c]) w (fun v' w'=>World.ownsRow w' w.heap.size 56 2 v' n xs∧Wk w w'):=by
 refine enter Tryz.func48 rfl Tryz.ntmps48 rfl ?_
 refine ab (fun _ s=>(ag (((s _ _ (sq (fun _ A=>ab (fun _ C=> ?_))))))))
 refine ae (.slice a n c) (p (k8 kI rfl rfl) (aj ((C _ _ (cb rfl (fun q=> ?_) (fun q=> ?_))))))
 have I:a=none:=by simpa using q
 refine ab (fun _ i=>(ag (((i _ _ (rt (tr (f1 rfl rfl ?_))))))))
 have hn0:=ha I
 subst hn0
 obtain rfl :=List.eq_nil_of_length_eq_zero (show xs.length=0 by omega)
 exact ⟨World.ownsRow_nil _ _ _ _,Md.refl _ _⟩
 refine aA (tn (A _ _ (ab (fun _ i=>(e (jU n2 fun O w5 hb5 j E=> ?_))))))
 have ho5:=E w.heap.size (by omega)
 refine ae (.slice a n c) (e (ap n2 (ho5) rfl (by have :=j.size; omega) rfl (hC.wk j.md) (hxl) (h1) (by omega) (by omega) fun M w7 J G hz7 U=> ?_))
 have hE7:=Wk.own j.md ho5 G (Nat.le_refl _)
 refine ag (((i _ _ (rt (f1 rfl rfl ?_)))))
 have hz:World.ownsRow w7 w.heap.size 56 2 M n xs:=by simpa using J
 exact ⟨hz,hE7⟩
theorem zt (v:Value) (n:Nat) (xs:List Value) (w:World) (hv:Rd w.heap v n 2 xs) (h1:xs.all Value.oneCell'=true) (hn:n≤1048576):aT Tryz.prog 48 [v].toArray w (fun v w'=>World.ownsRow w' w.heap.size 56 2 v n xs∧Wk w w'):=by
 obtain ⟨a,c,rfl,hC,hxl,ha⟩:=hv
 exact zu a n c xs w hC hxl ha h1 hn
theorem xj (B fb mc:Nat) (F:aG) (V:c5) (w:World) (aD:bB w B fb mc F V) (hb:F.bH.length+F.aliases.length+F.a6.length+F.rules.length≤70000) (hnx:Nx F):
 aT Tryz.prog 38 (List.toArray [aU fb]) w (fun v w'=>(∃ bc,v= .agg (gi F bc).toArray∧wS w' w.heap.size F bc)∧Wk w w'):=by
 refine enter Tryz.func38 rfl Tryz.ntmps38 rfl ?_
 refine ab (fun _ bG=>(e (fK wH fun aY O hb2 a1 hB2=> ?_)))
 have hz2:=a1.size
 have hF2:=aD.wk a1.md
 refine aj ((bG _ _ (sq (fun _ bR=>ab (fun _ bS=>(ae (aU fb) (p (jv oe rfl rfl) (nl ?_))))))))
 refine tn (bS _ _ (cf (rfl) (aA (tn (bR _ _ (ab (fun _ bT=>(ae (aU fb) (p (nc rfl) ?_)))))))))
 refine p (fa dz rfl) (p (dp oH rfl (rfl) (show ∀ j,j < 13→Hb.ay O.heap fb (0 +j)=(gi F V)[j]? from fun j hj=>(aQ hF2.cells).trans (by match j,hj with | 0,_=>rfl | 1,_=>rfl | 2,_=>rfl | 3,_=>rfl | 4,_=>rfl | 5,_=>rfl | 6,_=>rfl | 7,_=>rfl | 8,_=>rfl | 9,_=>rfl | 10,_=>rfl | 11,_=>rfl | 12,_=>rfl))) (e (fK wH fun M w3 cz bk b1=> ?_)))
 have hz3:=bk.size
 refine e (ga sI rfl rfl rfl (xH hF2) b1 (by decide) fun w30 bj b2=> ?_)
 have bg:Wk O w30:=bk.md.trans' bj (fun q a h=>by omega)
 have hz30:=bj.size
 have hF30:=hF2.wk bg
 have aK:w30.heap[M]? =some (.cells (gi F ⟨V.v9,V.v10,V.v11,V.dd,V.sa,V.rn⟩).toArray 87 (0,0)):=b2
 refine aj ((bT _ _ (ab (fun _ bU=>(p (fa nG rfl) (p (ld ri rfl ((aQ aK).trans rfl)) (e (cl yW (zw V.v9 F.bH.length (iz F.bH) w30 (Rd.fW hF30.o9) (tq (fun _=>rfl) _) (by omega)) rfl fun J w16 b8=> ?_))))))))
 obtain ⟨bt,aZ⟩:=b8
 have hz16:=aZ.size
 have ho16x:=fX bt (show w3.heap.size≤w30.heap.size by omega)
 refine p (fa nG rfl) (e (c4 sE rfl rfl (v:=J) (dA bt) (aZ.au aK) (by show _ < 13; omega) fun w4 a0 b3=> ?_))
 have hE4:Wk O w4:=(bg.trans aZ).trans' a0 (fun q a h=>by omega)
 have hz4:=a0.size
 have hF4:=hF2.wk hE4
 have ho16y:=bA ho16x a0 (fun q a h=>by have :=(cU ho16x a).1; omega)
 have br:w4.heap[M]? =some (.cells (gi F ⟨J,V.v10,V.v11,V.dd,V.sa,V.rn⟩).toArray 87 (0,0)):=b3
 refine aj ((bU _ _ (ab (fun _ bV=>(p (fa lh rfl) (p (ld mY rfl ((aQ br).trans rfl)) (e (cl yX (zq V.v11 F.a6.length (g6 F.a6) w4 (Rd.fW hF4.dZ) (tq (fun _=>rfl) _) (by omega)) rfl fun v20 w20 b9=> ?_))))))))
 obtain ⟨bv,ap⟩:=b9
 have hz20:=ap.size
 have ho20x:=fX bv (show w3.heap.size≤w4.heap.size by omega)
 refine p (fa lh rfl) (e (c4 sG rfl rfl (v:=v20) (dA bv) (ap.au br) (by show _ < 13; omega) fun w5 aI b4=> ?_))
 have hE5:Wk O w5:=(hE4.trans ap).trans' aI (fun q a h=>by omega)
 have hz5:=aI.size
 have hF5:=hF2.wk hE5
 have ho16z:=bA (aE ho16y ap) aI (fun q a h=>by have :=(cU (aE ho16y ap) a).1; omega)
 have ho20y:=bA ho20x aI (fun q a h=>by have :=(cU ho20x a).1; omega)
 have hc5:w5.heap[M]? =some (.cells (gi F ⟨J,V.v10,v20,V.dd,V.sa,V.rn⟩).toArray 87 (0,0)):=b4
 refine aj ((bV _ _ (ab (fun _ bW=>(p (fa jx rfl) (p (ld kj rfl ((aQ hc5).trans rfl)) (e (cl yY (zA V.v10 F.aliases.length V.sa w5 (Rd.fW hF5.eK) (oI hF5.al) (by omega)) rfl fun bE cE ca=> ?_))))))))
 obtain ⟨bx,hE24⟩:=ca
 have hz24:=hE24.size
 have ho24x:=fX bx (show w3.heap.size≤w5.heap.size by omega)
 refine p (fa jx rfl) (e (c4 sF rfl rfl (v:=bE) (dA bx) (hE24.au hc5) (by show _ < 13; omega) fun w6 ar hB6=> ?_))
 have b7:Wk O w6:=(hE5.trans hE24).trans' ar (fun q a h=>by omega)
 have hz6:=ar.size
 have ho9a:=bA (aE ho16z hE24) ar (fun q a h=>by have :=(cU (aE ho16z hE24) a).1; omega)
 have ho11a:=bA (aE ho20y hE24) ar (fun q a h=>by have :=(cU (aE ho20y hE24) a).1; omega)
 have ho10a:=bA ho24x ar (fun q a h=>by have :=(cU ho24x a).1; omega)
 have bs:w6.heap[M]? =some (.cells (gi F ⟨J,bE,v20,V.dd,V.sa,V.rn⟩).toArray 87 (0,0)):=hB6
 obtain ⟨Y,gk,rfl⟩:=dw ho10a
 have hsl:=aD.al.1
 refine aj ((bW _ _ (sq (fun _ bX=>ab (fun _ bY=>(p (fa jx rfl) (p (ld kj rfl ((aQ bs).trans rfl)) (p (bl oo rfl rfl) ?_))))))))
 refine p mv (aj ((bY _ _ (au (lp (fun an ai wI=> ∃ (i:Nat) (sa:List Value),(i≤F.aliases.length)∧(sa.length=F.aliases.length)∧(sa.drop i=V.sa.drop i)∧(bM wI w3.heap.size 71 (sa.take i) (F.aliases.take i))∧(World.ownsRow wI w3.heap.size 54 1 (.slice Y F.aliases.length gk) F.aliases.length (sa))∧(World.ownsRow wI w3.heap.size 163 2 (J) F.bH.length (iz F.bH))∧(World.ownsRow wI w3.heap.size 157 5 (v20) F.a6.length (g6 F.a6))∧(wI.heap[M]? =some (.cells (gi F ⟨J,.slice Y F.aliases.length gk,v20,V.dd,V.sa,V.rn⟩).toArray 87 (0,0)))∧(Wk O wI)∧(w3.heap.size≤wI.heap.size)∧(ai 2=aU aY)∧(ai 3=aU M)∧(ai 27= .slice Y F.aliases.length gk)∧(ai 28=U (F.aliases.length))∧(ai 29=U i)∧(F.aliases.length - i=an)) _ ⟨0,V.sa,(by omega),hsl,rfl,(bM.nil _ _ _),ho10a,ho9a,ho11a,bs,b7,((by omega)),rfl,rfl,rfl,rfl,rfl,rfl⟩ ?_)))))
 rintro an ai wI ⟨i,sa,hi,aw,bD,hal,I,aR,aO,av,aC,cA,ck,cp,cm,cn,co,rfl⟩
 refine fx 2 ck (fx 3 cp (fx 27 cm (fx 28 cn (fx 29 co (ab (fun _ bI=>(p (lt rfl rfl) (aj ((bI _ _ (sq (fun _ bK=>cd rfl (fun aK=> ?_) (fun aK=> ?_)))))))))))))
 refine aA (tn (bK _ _ (sq (fun _ aV=>au (sq (fun _ aW=> ?_))))))
 obtain ⟨cD,cv,a3⟩:=bM.get (hF2.wk aC).al (show i < F.aliases.length by omega)
 obtain ⟨bZ,ci,rfl⟩:=a3.slice
 refine rg rfl (ae (U i) (p (aH po rfl rfl (by omega) (ak.ok ((aB I).2) (fun h=>by rw [h] at aw; simp at aw; omega))) (p (ld gZ rfl (ak.gA (aB I).2 ((pj bD).trans cv))) (p (bw (U i) rfl) (ag (((aW _ _ ?_))))))))
 have Z:(fun w'=>Wk wI w') wI.drew:=(Md.refl _ _).drew
 refine da (fun w'=>Wk wI w') 6 rfl wide Z (lq 0 rfl (by kernel_rfl) (fun _ _=>fa jx rfl) Z (lq 1 rfl (by kernel_rfl) (fun w' ah=>ld kj rfl (Wk.ay ah ((aQ av).trans rfl))) Z (lq 2 rfl (by kernel_rfl) (fun _ _=>ao (U i) rfl) Z (lq 3 rfl (by kernel_rfl) (fun _ _=>mv) Z (fM 4 rfl (by kernel_rfl) (cl m9 (ng bZ (F.aliases.getD i []).length ci ((F.aliases.getD i []).map az) wI.drew (ak.wk a3.bN.2 Z) (by simp) (fun h=>Tg.nM a3 (by simp) h) (m3 _) (by have :=hnx.1 _ (du (d:= []) (show i < F.aliases.length by omega)); omega)) rfl fun cx w38 cb=> ?_))))))
 obtain ⟨a7,bh⟩:=cb
 have C:Wk wI w38:=Z.trans bh
 have hSI:=C
 have bm:(fun w'=>Wk wI w') w38:=Z.trans bh
 refine ⟨bm,?_⟩
 refine lq 5 rfl (by kernel_rfl) (fun _ _=>aH po rfl rfl (by omega) (ak.ok ((aB I).2) (fun h=>by rw [h] at aw; simp at aw; omega))) bm (bJ 6 rfl (by kernel_rfl) (by kernel_rfl) (lE (j:=i) (aE I C) np rfl rfl (dA a7) (by simp) (by omega) fun w10 aa ho10=> ?_))
 have b5:Wk O w10:=Wk.own (aC.trans C) (aE I C) aa (by omega)
 have ho38x:=bA (fX a7 (show w3.heap.size≤wI.heap.size by omega)) aa (fun q a=>jb a7 (aE I C) (by decide) a)
 have hal10:=(hal.wk C).md aa (fc (aE I C) (by decide))
 have ho9J:=bA (aE aR C) aa (fun q a=>jb (aE aR C) (aE I C) (by decide) a)
 have ho11J:=bA (aE aO C) aa (fun q a=>jb (aE aO C) (aE I C) (by decide) a)
 have hcJ:=aa.au (Wk.au C av) (fun h=>by have :=(cU (aE I C) h).1; omega)
 refine c9 (by kernel_rfl) ?_
 exact bn (tn (aV _ _ (rg rfl (p (ad rfl rfl (bp (by omega))) (p mv (aj ((⟨_,by omega,i+1,sa.set i cx,(by omega),((by rw [List.length_set]; exact aw)),(set_drop bD),(rr hal10 (by omega) (by omega) (Tg.fW ho38x)),ho10,ho9J,ho11J,hcJ,b5,((by have :=hSI.size; have :=aa.size; omega)),rfl,rfl,rfl,rfl,rfl,rfl⟩))))))))
 refine ext (te _ (te _ (be (tn (bX _ _ (ab (fun _ aV=>(p (fa jy rfl) ?_))))))))
 refine p (ld km rfl ((aQ av).trans rfl)) (e (cl yZ (zy V.dd F.rules.length (eL (F.rules.zip V.rn)) wI (Rd.fW (hF2.wk aC).dJ) (EZ aD.nx) (by omega)) rfl fun bF w43 cc=> ?_))
 obtain ⟨bz,hE43⟩:=cc
 have hz43:=hE43.size
 have ho43x:=fX bz (show w3.heap.size≤wI.heap.size by omega)
 rw [List.take_of_length_le (by omega),List.take_of_length_le (by omega)] at hal
 refine p (fa jy rfl) (e (c4 sH rfl rfl (v:=bF) (dA bz) (Wk.au hE43 av) (by show _ < 13; omega) fun w12 ac b0=> ?_))
 have hE12:Wk O w12:=(aC.trans hE43).trans' ac (fun q a h=>by omega)
 have hz12:=ac.size
 have ho9b:=bA (aE aR hE43) ac (fun q a h=>by have :=(cU (aE aR hE43) a).1; omega)
 have ho10b:=bA (aE I hE43) ac (fun q a h=>by have :=(cU (aE I hE43) a).1; omega)
 have ho11b:=bA (aE aO hE43) ac (fun q a h=>by have :=(cU (aE aO hE43) a).1; omega)
 have ho12b:=bA ho43x ac (fun q a h=>by have :=(cU ho43x a).1; omega)
 have halb:=(hal.wk hE43).md ac (ez (Wk.au hE43 av) (by decide))
 have bq:w12.heap[M]? =some (.cells (gi F ⟨J,.slice Y F.aliases.length gk,v20,bF,V.sa,V.rn⟩).toArray 87 (0,0)):=b0
 obtain ⟨am,g4,rfl⟩:=dw ho12b
 have hrl:V.rn.length=F.rules.length:=by have :=aD.nx.1; rwa [List.length_map] at this
 refine aj ((aV _ _ (sq (fun _ aW=>ab (fun _ bL=>(p (fa jy rfl) (p (ld km rfl ((aQ bq).trans rfl)) (p (bl oq rfl rfl) ?_))))))))
 refine p mv (aj ((bL _ _ (au (lp (fun an ax A=> ∃ (i:Nat) (rn:List Value),(i≤F.rules.length)∧(rn.length=F.rules.length)∧(rn.drop i=V.rn.drop i)∧(bM A w3.heap.size 71 (rn.take i) ((F.rules.map (·.next)).take i))∧(World.ownsRow A w3.heap.size 155 7 (.slice am F.rules.length g4) F.rules.length (eL (F.rules.zip rn)))∧(World.ownsRow A w3.heap.size 163 2 (J) F.bH.length (iz F.bH))∧(World.ownsRow A w3.heap.size 54 1 (.slice Y F.aliases.length gk) F.aliases.length (sa))∧(bM A w3.heap.size 71 sa F.aliases)∧(World.ownsRow A w3.heap.size 157 5 (v20) F.a6.length (g6 F.a6))∧(A.heap[M]? =some (.cells (gi F ⟨J,.slice Y F.aliases.length gk,v20,.slice am F.rules.length g4,V.sa,V.rn⟩).toArray 87 (0,0)))∧(Wk O A)∧(w3.heap.size≤A.heap.size)∧(ax 2=aU aY)∧(ax 3=aU M)∧(ax 47=U (F.rules.length))∧(ax 48=U i)∧(F.rules.length - i=an)) _ ⟨0,V.rn,(by omega),hrl,rfl,(bM.nil _ _ _),ho12b,ho9b,ho10b,halb,ho11b,bq,hE12,((by omega)),rfl,rfl,rfl,rfl,rfl⟩ ?_)))))
 rintro an ax A ⟨i,rn,hi,cj,bC,hnl,E,aS,aN,bo,aP,aL,aq,cB,cq,cr,ct,cu,rfl⟩
 refine fx 2 cq (fx 3 cr (fx 47 ct (fx 48 cu (ab (fun _ bO=>(p (lt rfl rfl) (aj ((bO _ _ (sq (fun _ bP=>cd rfl (fun cg=> ?_) (fun cg=> ?_))))))))))))
 refine aA (tn (bP _ _ (sq (fun _ aX=>au (sq (fun _ bQ=> ?_))))))
 obtain ⟨vn,cw,a4⟩:=bM.get (hF2.wk aq).nx (show i < (F.rules.map (·.next)).length by rw [List.length_map]; omega)
 obtain ⟨bd,bf,rfl⟩:=a4.slice
 obtain ⟨q,ba⟩:∃ q,F.rules[i]? =some q:=⟨_,List.getElem?_eq_getElem (by omega)⟩
 have ch:(F.rules.map (·.next)).getD i []=q.next:=by rw [List.getD_eq_getElem?_getD,List.getElem?_map,ba]; rfl
 have hql:=hnx.2 q (List.mem_of_getElem? ba)
 rw [← ch] at hql
 have bb:(F.rules.zip rn)[i]? =some (q,.slice bd ((F.rules.map (·.next)).getD i []).length bf):=List.getElem?_zip_eq_some.2 ⟨ba,(pj bC).trans cw⟩
 refine rg rfl (ae (U i) (p (bw (U i) rfl) (aj ((bQ _ _ ?_)))))
 have G:(fun w'=>Wk A w') A.drew:=(Md.refl _ _).drew
 refine da (fun w'=>Wk A w') 12 rfl wide G (a5 0 rfl (fun _=>fa jy rfl) (fun _=>G) (cT 1 rfl (fun w' ah=>ld km rfl (Wk.ay ah ((aQ aL).trans rfl))) G (aJ 2 rfl (U i) G (a5 3 rfl (fun _=>fa jy rfl) (fun _=>G) (cT 4 rfl (fun w' ah=>ld km rfl (Wk.ay ah ((aQ aL).trans rfl))) G (aJ 5 rfl (U i) G (a5 6 rfl (fun _=>aH pq rfl rfl (by omega) (ak.ok ((aB E).2) (vl bb))) (fun _=>G) ?_)))))))
 refine a5 7 rfl (fun _=>fa nD rfl) (fun _=>G) (cT 8 rfl (fun w' ah=>ld gZ rfl (Wk.ay ah (im (f:=fY) (m:=7) (fun _=>rfl) (aB E).2 bb 6 (by decide)))) G (fM 9 rfl (by kernel_rfl) (cl m9 (ng bd ((F.rules.map (·.next)).getD i []).length bf (((F.rules.map (·.next)).getD i []).map az) A.drew (ak.wk a4.bN.2 G) (by simp) (fun h=>Tg.nM a4 (by simp) h) (m3 _) (by omega)) rfl fun cy w60 ce=> ?_)))
 obtain ⟨a8,bi⟩:=ce
 have c:Wk A w60:=G.trans bi
 have hSK:=c
 have a2:(fun w'=>Wk A w') w60:=G.trans bi
 refine ⟨a2,?_⟩
 refine a5 10 rfl (fun _=>aH pq rfl rfl (by omega) (ak.ok ((aB E).2) (vl bb))) (fun _=>a2) (a5 11 rfl (fun _=>fa nD rfl) (fun _=>a2) (bJ 12 rfl (by kernel_rfl) (by kernel_rfl) (lE (j:=i*7 +6) (aE E c) np rfl rfl (dA a8) (by rw [Int.toNat_natCast]; omega) (by omega) fun w16 hM16 bu=> ?_)))
 rw [E0 (by omega) (by omega)] at bu
 have b6:Wk O w16:=Wk.own (aq.trans c) (aE E c) hM16 (by omega)
 have ho60x:=bA (fX a8 (show w3.heap.size≤A.heap.size by omega)) hM16 (fun q a=>jb a8 (aE E c) (by decide) a)
 have hnl16:=(hnl.wk c).md hM16 (fc (aE E c) (by decide))
 have hal16:=(bo.wk c).md hM16 (fc (aE E c) (by decide))
 have ho9L:=bA (aE aS c) hM16 (fun q a=>jb (aE aS c) (aE E c) (by decide) a)
 have ho10L:=bA (aE aN c) hM16 (fun q a=>jb (aE aN c) (aE E c) (by decide) a)
 have ho11L:=bA (aE aP c) hM16 (fun q a=>jb (aE aP c) (aE E c) (by decide) a)
 have hcL:=hM16.au (Wk.au c aL) (fun h=>by have :=(cU (aE E c) h).1; omega)
 refine c9 (by kernel_rfl) ?_
 exact bn (tn (aX _ _ (rg rfl (p (ad rfl rfl (bp (by omega))) (p mv (aj ((⟨_,by omega,i+1,rn.set i cy,(by omega),((by rw [List.length_set]; exact cj)),(set_drop bC),(rr hnl16 (by rw [List.length_map]; omega) (by omega) (Tg.fW ho60x)),bu,ho9L,ho10L,hal16,ho11L,hcL,b6,((by have :=hSK.size; have :=hM16.size; omega)),rfl,rfl,rfl,rfl,rfl⟩))))))))
 refine ext (te _ (te _ (be (tn (aW _ _ (ab (fun _ aX=>(p (dp oH rfl (rfl) (show ∀ j,j < 13→Hb.ay A.heap M (0 +j)=(gi F ⟨J,.slice Y F.aliases.length gk,v20,.slice am F.rules.length g4,V.sa,V.rn⟩)[j]? from fun j hj=>(aQ aL).trans (by match j,hj with | 0,_=>rfl | 1,_=>rfl | 2,_=>rfl | 3,_=>rfl | 4,_=>rfl | 5,_=>rfl | 6,_=>rfl | 7,_=>rfl | 8,_=>rfl | 9,_=>rfl | 10,_=>rfl | 11,_=>rfl | 12,_=>rfl))) ?_))))))))
 refine e (ga sI rfl rfl rfl (rB (dA aS) (dA aN) (dA aP) (dA E)) (Wk.au aq hB2) (by decide) fun w18 aF hB18=>aj ((aX _ _ (rt (l5 rfl (c7 (cs:=gi F ⟨J,.slice Y F.aliases.length gk,v20,.slice am F.rules.length g4,V.sa,V.rn⟩) rfl oH rfl (fun j hj=>(a9.cC ⟨_,hB18⟩ j).trans rfl)) ?_)))))
 have aM:∀ {t s n:Nat} {v:Value} {xs:List Value},World.ownsRow A w3.heap.size t s v n xs→World.ownsRow w18 w.heap.size t s v n xs:=fun h=>fX (bA h aF (fun q a h2=>by have :=(cU h a).1; omega)) (by omega)
 rw [List.take_of_length_le (by omega),List.take_of_length_le (by rw [List.length_map]; omega)] at hnl
 have hfl:∀ k,k=aY→∀ cur z,A.heap[k]?≠some (.cells cur 71 z):=ez (Wk.au aq hB2) (by decide)
 exact ⟨⟨⟨J,.slice Y F.aliases.length gk,v20,.slice am F.rules.length g4,sa,rn⟩,rfl,⟨aM aS,aM aN,(bo.md aF hfl).mono (by omega),aM aP,aM E,(hnl.md aF hfl).mono (by omega)⟩⟩,(a1.md.trans aq).trans' aF (fun q a h=>by omega)⟩
end Go.Hb.jP
end
section
set_option maxRecDepth 20000
set_option maxHeartbeats 1000000
namespace Go.Hb.kb
open Go.Hb.cJ
open Go.Proofs
open Go.Hb.eM Go.Hb.fg Go.Hb.fF Go.Hb.jl Go.Hb.j9 Go.Hb.lO Go.Hb.iG Go.Hb.kN Go.Hb.fH Go.Hb.jP Go.Hb.ib Go.Hb.gX Go.Hb.mQ Go.Hb.gx
noncomputable def gq (r:List Tx):Nat×Int:=if r.length≠1 then (0,111) else dv (r.getD 0 []) 8192
def wV (c w':World) (X:Except Nat bR) (v:Value):Prop :=(∃ x a,X= .ok x∧v= .tuple #[.agg [str x.1,a].toArray,.int .i64 (0:Nat)]∧World.ownsRow w' c.heap.size 71 1 a x.2.length (x.2.map az))∨(∃ e,X= .error e∧e≠0∧v= .tuple #[.agg [str [],.slice none 0 0].toArray,.int .i64 (e:Nat)])
theorem uR {s:Tx} {i:Nat} (hi:i < s.length):(s.take (i+1)).drop i= [s.getD i 0]:=by
 rw [qB 0 (Nat.le_refl i) hi,List.drop_eq_nil_of_le (by rw [List.length_take]; omega),List.nil_append]
theorem wa (b:UInt8):eX [b]=dX b:=by unfold eX; rw [xX]; cases dX b <;> rfl
theorem sP {F:aG} {x:Nat} (h:(dy F.a6 x).isSome=true∨x∈F.sp):cQ F x=true :=by
 unfold cQ; rcases h with h | h
 · rw [h,Bool.or_true]
 · rw [decide_eq_true h]; rfl
theorem AA {F:aG} {x:Nat} (h:(dy F.a6 x).isSome=false) (h1:x∉F.sp):cQ F x=false :=by
 unfold cQ; rw [h,decide_eq_false h1]; rfl
theorem Fu {F:aG} (h:F.sp.length=5):[F.sp.getD 0 0,F.sp.getD 1 0,F.sp.getD 2 0,F.sp.getD 3 0,F.sp.getD 4 0]=F.sp:=by
 match F.sp,h with
 | [a,b,c,d,e],_=>rfl
theorem CB (a:Option Addr) (c:Nat) (l:List Nat) (x:Nat) (w:World) (hC:ak w.heap a (l.map az)) (hl:l.length≤1048576):
 aT Tryz.prog 105 (List.toArray [.slice a l.length c,az x]) w (fun v w'=>(∃ k:Int,v= .int .i64 k∧(0≤k↔x∈l)∧ -1≤k∧k≤1048576)∧Wk w w'):=by
 refine enter Tryz.func105 rfl Tryz.ntmps105 rfl ?_
 refine ab (fun _ G=>(ag (((G _ _ (sq (fun _ I=>ab (fun _ J=> ?_))))))))
 refine ae (.slice a l.length c) (p (bl gV rfl rfl) (p mv (aj ((J _ _ (au (lp (fun A q wI=> ∃ (i:Nat),(i≤l.length)∧(∀ j,j < i→l.getD j 0≠x)∧(wI=w)∧(q 0= .slice a l.length c)∧(q 1=az x)∧(q 7=U (l.length))∧(q 8=U i)∧(l.length - i=A)) _ ⟨0,(by omega),((fun j hj=>by omega)),rfl,rfl,rfl,rfl,rfl,rfl⟩ ?_)))))))
 rintro A q wI ⟨i,hi,E,aa,ah,ai,al,am,rfl⟩
 refine fx 0 ah (fx 1 ai (fx 7 al (fx 8 am ?_)))
 subst aa
 refine ab (fun _ M=>(p (lt rfl rfl) (aj ((M _ _ (sq (fun _ O=>cd rfl (fun ac=> ?_) (fun ac=> ?_))))))))
 refine aA (tn (O _ _ (sq (fun _ s=>au (ab (fun _ V=>(ae (U i) (p (bw (U i) rfl) ?_))))))))
 refine aj ((V _ _ (ab (fun _ Y=>(ae (az x) (ae (.slice a l.length c) (ae (U i) (p (aH aY rfl rfl (by omega) (ak.ok (hC) (bG (by omega)))) ?_))))))))
 refine p (ld ba rfl (ak.gA hC (show (l.map az)[i]? =some (az (l.getD i 0)) by rw [List.getElem?_map,List.getD_eq_getElem?_getD,List.getElem?_eq_getElem (by omega :i < l.length)]; rfl))) ?_
 refine p (bo rfl rfl) (aj ((Y _ _ (cd rfl (fun C=> ?_) (fun C=> ?_)))))
 refine ab (fun _ Z=>(ae (U i) (p (bw (U i) rfl) (aj ((Z _ _ (rt (br ?_))))))))
 exact tr (tr (br (tr (f1 rfl rfl (⟨⟨(i:Nat),rfl,⟨fun _=>by obtain rfl :x=l.getD i 0:=(by omega); exact du (by omega),fun _=>by omega⟩,by omega,by omega⟩,Md.refl _ _⟩)))))
 refine aA (bn (tn (s _ _ (rg rfl (p (ad rfl rfl (bp (by omega))) (p mv (nl (tn ?_))))))))
 exact ⟨_,by omega,i+1,(by omega),((fun j hj=>by rcases Nat.lt_or_ge j i with h | h <;> first | exact E j h | (rw [show j=i by omega]; exact fun h2=>C (by rw [h2])))),rfl,rfl,rfl,rfl,rfl,rfl⟩
 refine ext (te _ (te _ (be (tn (I _ _ (ab (fun _ s=>(p aw ?_))))))))
 exact aj ((s _ _ (rt (f1 rfl rfl (⟨⟨-1,rfl,⟨fun h=>absurd h (by omega),fun h=>by obtain ⟨j,hj,e⟩:=mi 0 h; exact absurd e (E j (by omega))⟩,by omega,by omega⟩,Md.refl _ _⟩)))))
theorem zW (a:Option Addr) (c:Nat) (l:List Nat) (x:Nat) (w:World) (hC:ak w.heap a (l.map az)) (hl:l.length≤1048576):
 aT Tryz.prog 76 (List.toArray [.slice a l.length c,az x]) w (fun v w'=>v= .bool (decide (x∈l))∧Wk w w'):=by
 refine enter Tryz.func76 rfl Tryz.ntmps76 rfl ?_
 refine ab (fun _ i=>(ag (((i _ _ (ab (fun _ j=>(ae (.slice a l.length c) ?_))))))))
 refine ae (az x) (e (cl xZ (CB a c l x w hC hl) rfl fun C w7 hR7=> ?_))
 obtain ⟨⟨s,rfl,q,A⟩,hE7⟩:=hR7
 exact p (ge rfl rfl) (ag (((j _ _ (rt (f1 rfl rfl (⟨by show Value.bool (decide (s≥0))=_; exact congrArg Value.bool (decide_eq_decide.2 q),hE7⟩)))))))
theorem k4 (ln er:Int) (w:World):
 aT Tryz.prog 36 (List.toArray [.int .i64 ln,.int .i64 er]) w (fun v w'=>v= .agg [.int .i64 2,.int .i64 ln,.int .i64 er].toArray∧Wk w w'):=by
 refine enter Tryz.func36 rfl Tryz.ntmps36 rfl ?_
 refine ab (fun _ a=>(e (al jM fun E w4 G C s=>aj ((a _ _ (ab (fun _ c=>(ae (.int .i64 ln) ?_))))))))
 exact ae (.int .i64 er) (p (bT (ps:= [(0,.int .i64 2),(1,.int .i64 ln),(2,.int .i64 er)]) (L:= [.int .i64 2,.int .i64 ln,.int .i64 er]) kH rfl (rfl)) (e (b0 fy rfl rfl rfl rfl (s) (by simp) fun J A i=>aj ((c _ _ (rt (l5 rfl (c7 (cs:= [.int .i64 2,.int .i64 ln,.int .i64 er]) rfl gz rfl (fun j hj=>i.cC j)) (⟨rfl,C.md.trans' A (fun q I h=>by omega)⟩))))))))
theorem AM (n:Nat) (r:List Tx) (B:Nat) (a:Option Addr) (c:Nat) (w:World) (hT:Tg w B 9 r.length (.slice a r.length c) (r.map str)) (hrl:∀ x∈r,x.length≤70000) (hr:r.length≤70000):
 aT Tryz.prog 37 (List.toArray [.agg [U n,.slice a r.length c].toArray]) w (fun v w'=>v= .tuple #[U ((gq r).1),.int .i64 (gq r).2]∧Wk w w'):=by
 refine enter Tryz.func37 rfl Tryz.ntmps37 rfl ?_
 refine ab (fun _ s=>(e (ig rfl fun I w1 J q hB1=> ?_)))
 have hT1:=hT.wk q.md
 refine p aw (ag (((s _ _ (sq (fun _ A=>ab (fun _ C=>(p (fa l7 rfl) ?_))))))))
 refine p (ld ki rfl ((hB1.ay 1).trans rfl)) (p (bl dT rfl rfl) (p (ej rfl rfl) (aj ((C _ _ (cd rfl (fun G=> ?_) (fun G=> ?_)))))))
 refine ab (fun _ j=>(p aw (ag (((j _ _ (rt (tr ?_))))))))
 refine f2 rfl rfl rfl ?_
 have h1:r.length≠1:=by omega
 exact ⟨by unfold gq; rw [if_pos h1]; rfl,q.md⟩
 refine aA (tn (A _ _ (ab (fun _ j=>(p (fa l7 rfl) (p (ld ki rfl ((hB1.ay 1).trans rfl)) (p (aH bZ rfl rfl (by omega) (ak.ok (hT1.bN.2) (bG (by omega)))) (p (ld bQ rfl (bE.get (i:=0) hT1.bN.2 (by omega))) ?_))))))))
 refine e (cl nd (nP (r.getD 0 []) 8192 w1 (by have :=hrl _ (du (d:= []) (show 0 < r.length by omega)); omega) (by omega)) rfl fun dd w12 E=> ?_)
 obtain ⟨rfl,hE12⟩:=E
 refine p (xt rfl rfl) (p (xt rfl rfl) (p aw (ag (((j _ _ (rt (f2 rfl rfl rfl ?_))))))))
 have h1:¬r.length≠1:=by omega
 exact ⟨by unfold gq; rw [if_neg h1]; rfl,q.md.trans hE12⟩
theorem AH (B fb mc:Nat) (F:aG) (V:c5) (n:Nat) (r:List Tx) (a5:Nat) (aX:Option Addr) (aZ:Nat) (w:World) (aM:bB w B fb mc F V) (bM:∃ seen,fO F [] seen) (b7:Tg w a5 9 r.length (.slice aX r.length aZ) (r.map str)) (hrl:∀ x∈r,x.length≤70000) (hr:r.length≤70000):
 aT Tryz.prog 39 (List.toArray [aU fb,.agg [az (F.sp.getD 0 0),az (F.sp.getD 1 0),az (F.sp.getD 2 0),az (F.sp.getD 3 0),az (F.sp.getD 4 0)].toArray,.agg [U n,.slice aX r.length aZ].toArray]) w (fun v w'=>wV w w' (dH F r) v∧Wk w w'):=by
 obtain ⟨seen,ap⟩:=bM
 have hbl:=ap.len
 have hwl:=oz (r.getD 0 [])
 refine enter Tryz.func39 rfl Tryz.ntmps39 rfl ?_
 refine ab (fun _ a6=>(e (ig rfl fun aJ w4 cH a3 bJ=>e (ig rfl fun cE w5 hb5 aN bK=>e (al wz fun aY w6 hb6 ar hB6=> ?_)))))
 have aq:Wk w w6:=a3.md.trans (aN.md.trans ar.md)
 have hq4:=ar.md.B (aN.md.B bJ)
 have hq5:=ar.md.B bK
 have hT:=b7.wk aq
 have hF6:=aM.wk aq
 have hz4:=a3.size
 have hz5:=aN.size
 have hz6:=ar.size
 refine ag (((a6 _ _ (sq (fun _ bd=>ab (fun _ bk=>(p (fa l7 rfl) (p (ld ki rfl ((hq5.ay 1).trans rfl)) ?_))))))))
 refine p (bl dT rfl rfl) (p (ej rfl rfl) (aj ((bk _ _ (cd rfl (fun b8=> ?_) (fun b8=> ?_))))))
 refine ab (fun _ aF=>(p (bT (ps:= []) (L:= [.string ⟨⟨[]⟩⟩,.slice none 0 0]) jd rfl (rfl)) (e (b0 iS rfl rfl rfl rfl (hB6) (by simp) fun cZ bY bI=>ag (((aF _ _ (rt ?_))))))))
 exact tr (ef rfl (c7 (cs:= [str [],.slice none 0 0]) rfl ic rfl (fun j hj=>bI.cC j)) dD (⟨.inr ⟨111,AY (by omega),by decide,rfl⟩,aq.trans' bY (fun q c h=>by omega)⟩))
 have I:r.length=1:=by omega
 have cI:(r.getD 0 []).length≤70000:=hrl _ (du (by omega))
 refine aA (tn (bd _ _ (ab (fun _ aF=>(p (fa l7 rfl) (p (ld ki rfl ((hq5.ay 1).trans rfl)) (p (aH bZ rfl rfl (by omega) (ak.ok (hT.bN.2) (bG (by omega)))) (p (ld bQ rfl (bE.get (i:=0) hT.bN.2 (by omega))) ?_))))))))
 refine e (cl oT (qO (r.getD 0 []) w6 (by omega)) rfl fun cJ w28 b2=> ?_)
 obtain ⟨rfl,ah⟩:=b2
 have hE28x:=aq.trans ah
 have hb28:=ah.B hB6
 have hz28:=ah.size
 refine p mv (p (xt rfl rfl) (p (xt rfl rfl) (p (xt rfl rfl) (p (xt rfl rfl) (p aw (p aw (p aw ?_)))))))
 refine ag (((aF _ _ (sq (fun _ bm=>ab (fun _ bo=>(p mv (p (ej rfl rfl) ?_))))))))
 refine aj ((bo _ _ (cd rfl (fun b9=> ?_) (fun b9=> ?_))))
 refine ab (fun _ aI=>(p (bT (ps:= []) (L:= [.string ⟨⟨[]⟩⟩,.slice none 0 0]) jd rfl (rfl)) (p mv (e (b0 iS rfl rfl rfl rfl (hb28) (by simp) fun c0 b1 bL=>ag (((aI _ _ ?_))))))))
 exact rt (tr (ef rfl (c7 (cs:= [str [],.slice none 0 0]) rfl ic rfl (fun j hj=>bL.cC j)) dD (⟨.inr ⟨_,AZ I (by omega),(by omega),rfl⟩,hE28x.trans' b1 (fun q c h=>by omega)⟩)))
 have Y:(aW (r.getD 0 [])).2.2.2=0:=by omega
 refine aA (tn (bm _ _ (sq (fun _ aI=>ab (fun _ bq=>(p mv (p (bV u9 rfl rfl) (p mv ?_))))))))
 refine aj ((bq _ _ (au (lp (fun ac C wI=> ∃ (i:Nat),(i≤(aW (r.getD 0 [])).1.length)∧(∀ j,j < i→dX ((aW (r.getD 0 [])).1.getD j 0)=true)∧(Wk w28 wI)∧(C 0=aU fb)∧(C 4=aU aJ)∧(C 6=aU aY)∧(C 8=str (aW (r.getD 0 [])).1)∧(C 9=str (aW (r.getD 0 [])).2.1)∧(C 10= .bool (aW (r.getD 0 [])).2.2.1)∧(C 38=U ((aW (r.getD 0 [])).1.length))∧(C 39=U i)∧((aW (r.getD 0 [])).1.length - i=ac)) _ ⟨0,(by omega),((fun j hj=>by omega)),(Md.refl _ _),rfl,rfl,rfl,rfl,rfl,rfl,rfl,rfl,rfl⟩ ?_))))
 rintro ac C wI ⟨i,hi,a4,A,ci,cn,co,cp,cq,cj,ck,cm,rfl⟩
 refine fx 0 ci (fx 4 cn (fx 6 co (fx 8 cp (fx 9 cq (fx 10 cj (fx 38 ck (fx 39 cm (ab (fun _ bs=>(p (lt rfl rfl) (aj ((bs _ _ (sq (fun _ a7=>cd rfl (fun ca=> ?_) (fun ca=> ?_))))))))))))))))
 refine aA (tn (a7 _ _ (sq (fun _ av=>au (ab (fun _ ax=>(ae (U i) (p (bw (U i) rfl) ?_))))))))
 refine aj ((ax _ _ (ab (fun _ Z=>(ae (str (aW (r.getD 0 [])).1) (ae (U i) (ae (U i) (p (ad rfl rfl (bp (by omega))) ?_))))))))
 refine p (mB u9 rfl rfl rfl (by omega)) (e (cl sc (wc (((aW (r.getD 0 [])).1.take (i+1)).drop i) wI (by rw [uR (by omega)]; simp)) rfl fun cK cN b3=> ?_))
 obtain ⟨rfl,hE47⟩:=b3
 have hon:=uR (s:=(aW (r.getD 0 [])).1) (i:=i) (by omega)
 have hE47x:=A.trans hE47
 refine p (no rfl) (aj ((Z _ _ (cb rfl (fun aP=> ?_) (fun aP=> ?_)))))
 have hx:dX ((aW (r.getD 0 [])).1.getD i 0)=false :=by rw [← wa,← hon]; simpa using aP
 refine ab (fun _ aa=>(p (bT (ps:= []) (L:= [.string ⟨⟨[]⟩⟩,.slice none 0 0]) jd rfl (rfl)) (e (b0 iS rfl rfl rfl rfl (Wk.B hE47x hb28) (by simp) fun cR bO bt=>ag (((aa _ _ (rt ?_))))))))
 exact br (tr (tr (br (tr (ef rfl (c7 (cs:= [str [],.slice none 0 0]) rfl ic rfl (fun j hj=>bt.cC j)) dD (⟨.inr ⟨21,sW I Y (.inl (kZ (by omega) hx)),by decide,rfl⟩,(hE28x.trans hE47x).trans' bO (fun q c h=>by omega)⟩))))))
 have hx:dX ((aW (r.getD 0 [])).1.getD i 0)=true :=by rw [← wa,← hon]; simpa using aP
 refine aA (bn (tn (av _ _ (rg rfl (p (ad rfl rfl (bp (by omega))) (p mv (nl (tn ?_))))))))
 exact ⟨_,by omega,i+1,(by omega),((fun j hj=>by rcases Nat.lt_or_ge j i with h | h <;> first | exact a4 j h | (rw [show j=i by omega]; exact hx))),hE47x,rfl,rfl,rfl,rfl,rfl,rfl,rfl,rfl,rfl⟩
 refine ext (te _ (te _ (be (tn (aI _ _ (sq (fun _ av=>au (sq (fun _ ax=> ?_)))))))))
 refine rg rfl (ae (str (aW (r.getD 0 [])).1) (p (e7 rfl rfl) (ag (((ax _ _ (cd rfl (fun O=> ?_) (fun O=> ?_))))))))
 refine ab (fun _ Z=>(p (bT (ps:= []) (L:= [.string ⟨⟨[]⟩⟩,.slice none 0 0]) jd rfl (rfl)) (e (b0 iS rfl rfl rfl rfl (Wk.B A hb28) (by simp) fun cS bP bv=>ag (((Z _ _ (rt ?_))))))))
 exact br (tr (ef rfl (c7 (cs:= [str [],.slice none 0 0]) rfl ic rfl (fun j hj=>bv.cC j)) dD (⟨.inr ⟨21,sW I Y (.inr O),by decide,rfl⟩,(hE28x.trans A).trans' bP (fun q c h=>by omega)⟩)))
 have hby:=lW (w:=(aW (r.getD 0 [])).1) (fun j hj=>a4 j (by omega))
 refine ab (fun _ Z=>(ae (str (aW (r.getD 0 [])).1) (p (bV u9 rfl rfl) (p (gt rfl rfl) (ag (((Z _ _ ?_))))))))
 refine cd rfl (fun cc=> ?_) (fun cc=> ?_)
 refine ab (fun _ aa=>(p (bT (ps:= []) (L:= [.string ⟨⟨[]⟩⟩,.slice none 0 0]) jd rfl (rfl)) (e (b0 iS rfl rfl rfl rfl (Wk.B A hb28) (by simp) fun cT bR bx=>ag (((aa _ _ (rt ?_))))))))
 exact br (tr (ef rfl (c7 (cs:= [str [],.slice none 0 0]) rfl ic rfl (fun j hj=>bx.cC j)) dD (⟨.inr ⟨22,A0 I Y hby O (by omega),by decide,rfl⟩,(hE28x.trans A).trans' bR (fun q c h=>by omega)⟩)))
 refine ab (fun _ aa=>(ae (.bool (aW (r.getD 0 [])).2.2.1) (p (no rfl) (ag (((aa _ _ (cb rfl (fun ai=> ?_) (fun ai=> ?_)))))))))
 refine ab (fun _ aC=>(ae (str (aW (r.getD 0 [])).1) (p (bT (ps:= [(0,str (aW (r.getD 0 [])).1)]) (L:= [str (aW (r.getD 0 [])).1,.slice none 0 0]) jd rfl (rfl)) (e (b0 iS rfl rfl rfl rfl (Wk.B A hb28) (by simp) fun cV bS bC=>ag (((aC _ _ ?_))))))))
 exact rt (br (tr (ef rfl (c7 (cs:= [str (aW (r.getD 0 [])).1,.slice none 0 0]) rfl ic rfl (fun j hj=>bC.cC j)) dD (⟨.inl ⟨_,.slice none 0 0,pn I Y hby O (by omega) (by simpa using ai),rfl,World.ownsRow_nil _ _ _ _⟩,(hE28x.trans A).trans' bS (fun q c h=>by omega)⟩))))
 refine aA (bn (tn (av _ _ (ab (fun _ aC=>(ae (aU fb) (ae (str (aW (r.getD 0 [])).2.1) (e (cl sd (s9 B fb mc F V (aW (r.getD 0 [])).2.1 wI (hF6.wk (ah.trans A)) ap.kd ap.al (by omega) (by omega)) rfl fun cA w68 b4=> ?_)))))))))
 obtain ⟨ch,aK⟩:=b4
 have hE68x:=hE28x.trans (A.trans aK)
 have hb68:=Wk.B (A.trans aK) hb28
 obtain ⟨cB,cF,rfl,hcs⟩:∃ a,∃ e:Nat,cA= .tuple #[a,U e]∧((e=0∧∃ l,eh F.kind F.aliases (aW (r.getD 0 [])).2.1= .ok l∧World.ownsRow w68 wI.heap.size 71 1 a l.length (l.map az))∨(e≠0∧eh F.kind F.aliases (aW (r.getD 0 [])).2.1= .error e)):=by
  rcases ch with ⟨a,l,h1,h2,h3⟩ | ⟨a,e,h1,h2,h3⟩
  exact ⟨a,0,h1,.inl ⟨rfl,l,h2,h3⟩⟩
  exact ⟨a,e,h1,.inr ⟨h2,h3⟩⟩
 refine p mv (p (xt rfl rfl) (p (xt rfl rfl) (p aw (ag (((aC _ _ (sq (fun _ a8=> ?_)))))))))
 refine ab (fun _ a9=>(p mv (p (ej rfl rfl) (aj ((a9 _ _ (cd rfl (fun ce=> ?_) (fun ce=> ?_))))))))
 obtain ⟨hne,am⟩:=hcs.resolve_left (fun h=>by omega)
 refine ab (fun _ aD=>(p (bT (ps:= []) (L:= [.string ⟨⟨[]⟩⟩,.slice none 0 0]) jd rfl (rfl)) (p mv (e (b0 iS rfl rfl rfl rfl (hb68) (by simp) fun cW bU bD=>ag (((aD _ _ ?_))))))))
 exact rt (tr (ef rfl (c7 (cs:= [str [],.slice none 0 0]) rfl ic rfl (fun j hj=>bD.cC j)) dD (⟨.inr ⟨_,A1 I Y hby O (by omega) (by simpa using ai) am,hne,rfl⟩,hE68x.trans' bU (fun q c h=>by omega)⟩)))
 obtain ⟨_,set,am,an⟩:=hcs.resolve_right (fun h=>by omega)
 obtain ⟨J,M,rfl⟩:=dw an
 have hsl:=tj (fun l hl=>(ap.al l hl).1) am
 refine aA (tn (a8 _ _ (sq (fun _ aD=>ab (fun _ bb=>(p mv (p (bl F3 rfl rfl) (p mv ?_))))))))
 refine aj ((bb _ _ (au (lp (fun ac E aS=> ∃ (j:Nat),(j≤set.length)∧(∀ q,q < j→cQ F (set.getD q 0)=true)∧(Wk w68 aS)∧(E 0=aU fb)∧(E 4=aU aJ)∧(E 6=aU aY)∧(E 8=str (aW (r.getD 0 [])).1)∧(E 13= .slice J set.length M)∧(E 75= .slice J set.length M)∧(E 76=U (set.length))∧(E 77=U j)∧(set.length - j=ac)) _ ⟨0,(by omega),((fun q c=>by omega)),(Md.refl _ _),rfl,rfl,rfl,rfl,rfl,rfl,rfl,rfl,rfl⟩ ?_))))
 rintro ac E aS ⟨j,hj,aO,G,cr,cu,cv,cz,ct,cw,cx,cy,rfl⟩
 refine fx 0 cr (fx 4 cu (fx 6 cv (fx 8 cz (fx 13 ct (fx 75 cw (fx 76 cx (fx 77 cy (ab (fun _ bf=>(p (lt rfl rfl) (aj ((bf _ _ (sq (fun _ bg=>cd rfl (fun cg=> ?_) (fun cg=> ?_))))))))))))))))
 refine aA (tn (bg _ _ (sq (fun _ ao=>au (ab (fun _ bh=>(p (aH Bg rfl rfl (by omega) (ak.ok ((aB (aE an G)).2) (bG (by omega)))) (p (ld ba rfl (ak.gA (aB (aE an G)).2 (show (set.map az)[j]? =some (az (set.getD j 0)) by rw [List.getElem?_map,List.getD_eq_getElem?_getD,List.getElem?_eq_getElem (by omega :j < set.length)]; rfl))) ?_))))))))
 refine ag (((bh _ _ (ab (fun _ bi=>(ae (aU fb) (p mv (e (cl r9 (s6 B fb mc F V (set.getD j 0) aS (aM.wk (hE68x.trans G)) (by omega)) rfl fun cL cO b5=> ?_)))))))))
 obtain ⟨rfl,a0⟩:=b5
 have hz84:=a0.size
 have hzJ:=G.size
 refine p mv (p (xt rfl rfl) (p (xt rfl rfl) (e (al mK fun cD w16 hb16 a2 bz=>e (b0 k0 rfl rfl rfl rfl (bz) (by simp) fun wt24_7 bW cG=> ?_)))))
 have hz16:=a2.size
 have hE24:Wk w68 wt24_7:=(G.trans (a0.trans a2.md)).trans' bW (fun q c h=>by omega)
 refine ag (((bi _ _ (ab (fun _ aV=>(p mv (p (no rfl) (p mv ?_))))))))
 refine gb (t:=89) rfl (fun aR=> ?_) (fun aR=> ?_)
 refine pg rfl rfl rfl (xG oJ rfl) (pg rfl rfl rfl mv (eg rfl rfl rfl (cl y0 (zW (some ⟨aJ,0,none⟩) 5 [F.sp.getD 0 0,F.sp.getD 1 0,F.sp.getD 2 0,F.sp.getD 3 0,F.sp.getD 4 0] (set.getD j 0) wt24_7 (ak.ea (Wk.B ((ah.trans (A.trans aK)).trans hE24) hq4)) (by simp)) rfl fun cM cP b6=> ?_)))
 obtain ⟨rfl,aL⟩:=b6
 rw [Fu aM.fN] at*
 refine pg rfl rfl rfl (no rfl) (p (bu rfl) (aj ((aV _ _ (cb rfl (fun aQ=> ?_) (fun aQ=> ?_))))))
 refine ab (fun _ bj=>(p (bT (ps:= []) (L:= [.string ⟨⟨[]⟩⟩,.slice none 0 0]) jd rfl (rfl)) (e (b0 iS rfl rfl rfl rfl (Wk.B (hE24.trans aL) hb68) (by simp) fun cX bX bF=>ag (((bj _ _ (rt ?_))))))))
 exact br (tr (tr (br (tr (ef rfl (c7 (cs:= [str [],.slice none 0 0]) rfl ic rfl (fun j hj=>bF.cC j)) dD (⟨.inr ⟨120,A2 I Y hby O (by omega) (by simpa using ai) am (i:=j) (by omega) (AA (by simpa using aR) (by simpa using aQ)),by decide,rfl⟩,(hE68x.trans (hE24.trans aL)).trans' bX (fun q c h=>by omega)⟩))))))
 refine aA (bn (tn (ao _ _ (rg rfl (p (ad rfl rfl (bp (by omega))) (p mv (nl (tn ?_))))))))
 exact ⟨_,by omega,j+1,(by omega),((fun q c=>by rcases Nat.lt_or_ge q j with h | h <;> first | exact aO q h | (rw [show q=j by omega]; exact sP (.inr (by simpa using aQ))))),(hE24.trans aL),rfl,rfl,rfl,rfl,rfl,rfl,rfl,rfl,rfl⟩
 refine sk rfl rfl rfl rfl (sk rfl rfl rfl rfl (sk rfl rfl rfl rfl (sk rfl rfl rfl rfl (p (bc rfl) (aj ((aV _ _ (cf rfl ?_))))))))
 refine aA (bn (tn (ao _ _ (rg rfl (p (ad rfl rfl (bp (by omega))) (p mv (nl (tn ?_))))))))
 exact ⟨_,by omega,j+1,(by omega),((fun q c=>by rcases Nat.lt_or_ge q j with h | h <;> first | exact aO q h | (rw [show q=j by omega]; exact sP (.inl (by simpa using aR))))),hE24,rfl,rfl,rfl,rfl,rfl,rfl,rfl,rfl,rfl⟩
 refine ext (te _ (te _ (be (tn (aD _ _ (ab (fun _ ao=>(ae (str (aW (r.getD 0 [])).1) ?_))))))))
 refine ae (.slice J set.length M) (p (bT (ps:= [(0,str (aW (r.getD 0 [])).1),(1,.slice J set.length M)]) (L:= [str (aW (r.getD 0 [])).1,.slice J set.length M]) jd rfl (rfl)) (e (b0 iS rfl rfl rfl rfl (Wk.B G hb68) (by simp) fun cY a1 bH=>ag (((ao _ _ (rt (ef rfl (c7 (cs:= [str (aW (r.getD 0 [])).1,.slice J set.length M]) rfl ic rfl (fun j hj=>bH.cC j)) dD ?_))))))))
 exact ⟨.inl ⟨((aW (r.getD 0 [])).1,set),.slice J set.length M,sX I Y hby O (by omega) (by simpa using ai) am (fun j hj=>aO j (by omega)),rfl,fX (bA (aE an G) a1 (fun q c h=>by have :=(cU an c).1; have :=A.size; omega)) (by have :=A.size; omega)⟩,(hE68x.trans G).trans' a1 (fun q c h=>by omega)⟩
end Go.Hb.kb
end
section
set_option maxRecDepth 20000
set_option maxHeartbeats 1000000
namespace Go.Hb.kQ
open Go.Hb.cJ
open Go.Proofs
open Go.Hb.eM Go.Hb.fg Go.Hb.fF Go.Hb.jl Go.Hb.j9 Go.Hb.lO Go.Hb.jN Go.Hb.iG Go.Hb.kN Go.Hb.fH Go.Hb.jP Go.Hb.kb Go.Hb.ib Go.Hb.gX Go.Hb.mQ Go.Hb.mN Go.Hb.gx Go.Hb.fQ
theorem B3:pA Tryz.prog 87 3=some (81,3):=by kernel_rfl
def il (q:bR×Value):List Value:= [str q.1.1,q.2]
def gF (l:List (bR×Value)):List Value:=l.flatMap il
theorem AW (l:List (bR×Value)) (q:bR×Value):gF (l++ [q])=gF l++il q:=by simp [gF]
theorem AX (l:List (bR×Value)):(gF l).length=l.length*2:=jX (f:=il) (m:=2) (fun _=>rfl) l
theorem kD {w:World} {B e size n k:Nat} {v:Value} {xs:List Value} (h:World.ownsRow w B e size v n xs) (hk:v.ownBlock=some k) (c:∀ cur z,w.heap[k]?≠some (.cells cur e z)):False:=by
 rcases h.2 with ⟨rfl,rfl⟩ | ⟨g,cap,cur,rfl,_,hg,_⟩
 · cases hk
 · have a:g=k:=by simpa [Value.ownBlock] using hk
   subst a
   exact c _ _ hg
structure iK (w:World) (B:Nat) (f:Value→Option Value) (xs:List bR):Prop where
 own:∀ s:Tx,World.ownsRow w B 3 1 ((f (str s)).getD (Value.slice none 0 0)) (idxs s xs).length ((idxs s xs).map mO)
 nil:∀ s:Tx,idxs s xs= []→(f (str s)).getD (Value.slice none 0 0)=(Value.slice none 0 0)
theorem iK.md {G:Nat→Prop} {w w':World} {B:Nat} {f:Value→Option Value} {xs:List bR} (h:iK w B f xs) (hm:Md G w w') (a:∀ k,G k→∀ cur z,w.heap[k]?≠some (.cells cur 3 z)):iK w' B f xs:=by
 refine ⟨fun s=> ?_,h.nil⟩
 refine bA (h.own s) hm (fun k hk hg=> ?_)
 exact kD (h.own s) hk (fun cur z hc=>a k hg cur z hc)
theorem qp {w:World} {B j k n c:Nat} {v v':Value} {xs i:List Value} (h:World.ownsRow w B 3 1 v n xs) (A:World.ownsRow w j 3 1 v' c i) (hk:v.ownBlock=some k) (C:v'.ownBlock=some k) (hn:0 < n) (M:0 < c):xs[0]? =i[0]? :=by
 rcases h.2 with ⟨rfl,rfl⟩ | ⟨g,cap,cur,rfl,_,hg,_,_,_,E⟩
 · omega
 · rcases A.2 with ⟨rfl,rfl⟩ | ⟨s,I,J,rfl,_,a,_,_,_,G⟩
   · omega
   · have p:g=k:=by simpa [Value.ownBlock] using hk
     have q:s=k:=by simpa [Value.ownBlock] using C
     subst p q
     rw [hg] at a
     cases a
     rw [← E,← G,List.getElem?_take,List.getElem?_take,if_pos (by omega),if_pos (by omega)]
theorem iK.sep {w:World} {B k:Nat} {f:Value→Option Value} {xs:List bR} {s t:Tx} (h:iK w B f xs) (hne:s≠t) (hs:((f (str s)).getD (Value.slice none 0 0)).ownBlock=some k):((f (str t)).getD (Value.slice none 0 0)).ownBlock≠some k:=by
 intro a
 have p:idxs s xs≠[]:=fun e=>by rw [h.nil s e] at hs; cases hs
 have q:idxs t xs≠[]:=fun e=>by rw [h.nil t e] at a; cases a
 have he:=qp (h.own s) (h.own t) hs a (List.length_pos_iff.2 p) (List.length_pos_iff.2 q)
 cases h1:idxs s xs with
 | nil=>exact p h1
 | cons i l=>
   cases h2:idxs t xs with
   | nil=>exact q h2
   | cons j m=>
     rw [h1,h2] at he
     have A:i=j:=by have h:=he; simp only [List.map_cons,List.getElem?_cons_zero,Option.some.injEq,mO,Value.int.injEq,true_and] at h; omega
     subst A
     have m1:i∈idxs s xs:=by rw [h1]; simp
     have c:i∈idxs t xs:=by rw [h2]; simp
     unfold idxs at m1 c
     have q1:=of_decide_eq_true (List.mem_filter.1 m1).2
     have q2:=of_decide_eq_true (List.mem_filter.1 c).2
     exact hne (q1.symm.trans q2)
theorem iK.put {w w1 p:World} {B j:Nat} {f:Value→Option Value} {xs:List bR} {x:bR} {v:Value} (h:iK w B f xs) (hm:Md (fun k=>((f (str x.1)).getD (Value.slice none 0 0)).ownBlock=some k) w w1)
 (i:World.ownsRow w1 B 3 1 v (idxs x.1 xs++ [xs.length]).length ((idxs x.1 xs++ [xs.length]).map mO)) (c:∀ cur z,w1.heap[j]?≠some (.cells cur 3 z)) (a:Md (fun k=>k=j) w1 p):iK p B (aX f (str x.1) v) (xs++ [x]):=by
 refine ⟨fun s=> ?_,fun s hs=> ?_⟩
 · by_cases hx:x.1=s
   · subst hx
     rw [mr,pS,if_pos rfl]
     exact bA i a (fun k hk hg=>kD i hk (fun cur z hc=>c cur z (hg ▸ hc)))
   · rw [lA (fun e=>hx (str_inj.1 e).symm),pS,if_neg hx,List.append_nil]
     have h1:=bA (h.own s) hm (fun k hk hg=>h.sep hx hg hk)
     exact bA h1 a (fun k hk hg=>kD h1 hk (fun cur z hc=>c cur z (hg ▸ hc)))
 · rw [pS] at hs
   by_cases hx:x.1=s
   · rw [if_pos hx] at hs; simp at hs
   · rw [if_neg hx,List.append_nil] at hs
     rw [lA (fun e=>hx (str_inj.1 e).symm)]; exact h.nil s hs
structure gW (w:World) (B wb mb:Nat) (va:Value) (vs:List Value) (xs:List bR):Prop where
 cells:w.heap[wb]? =some (.cells [va,.map (some mb)].toArray 108 (0,0))
 own:World.ownsRow w B 56 2 va xs.length (gF (xs.zip vs))
 fl:bM w B 71 vs (xs.map (·.2))
 mp:∃ f,bf w.heap mb eC f∧iK w B f xs
theorem gW.md {G:Nat→Prop} {w w':World} {B j a:Nat} {i:Value} {vs:List Value} {xs:List bR} (h:gW w B j a i vs xs) (hm:Md G w w') {L:List Nat} (hT:TF w L G) (c:(L.contains 110 || L.contains 58 || L.contains 73 || L.contains 5)=false) (q:¬G a):gW w' B j a i vs xs:=by
 simp only [Bool.or_eq_false_iff] at c
 obtain ⟨⟨⟨h1,h2⟩,h3⟩,h4⟩:=c
 obtain ⟨f,hf,p⟩:=h.mp
 exact ⟨hm.g3 hT h.cells h1,cg h.own hm hT h2,h.fl.md hm (fun k hk cur z hg=>hT.no (cW hg) h3 hk),⟨f,hf.md hm q,p.md hm (fun k hk cur z hg=>hT.no (cW hg) h4 hk)⟩⟩
theorem gW.wk {w w':World} {B i a:Nat} {c:Value} {vs:List Value} {xs:List bR} (h:gW w B i a c vs xs) (hm:Wk w w'):gW w' B i a c vs xs:=h.md (L:= []) hm (fun _ hk=>hk.elim) rfl id
theorem AK {F:aG} {t:Tx} {ln:Nat} {row:List Tx} {rows:List Rw} (h:¬65536 < t.length) (h1:cI t=(ln,row)::rows) (h2:(gq row).2≠0):∃ e:Nat,(gq row).2=(e:Int)∧fz F t= .error (ln,e):=by
 unfold gq at h2 ⊢
 by_cases hr:row.length≠1
 · rw [if_pos hr]; exact ⟨111,rfl,AO h h1 hr⟩
 · rw [if_neg hr] at h2 ⊢
   have h3:=nN (s:=row.getD 0 []) (most:=8192) h2
   exact ⟨13,h3.2,AR h h1 (Classical.not_not.1 hr) h3.1⟩
theorem AL {F:aG} {t:Tx} {ln:Nat} {row:List Tx} {rows:List Rw} (h:¬65536 < t.length) (h1:cI t=(ln,row)::rows) (h2:(gq row).2=0):∃ n:Nat,(gq row).1=n∧n≤8192∧fz F t=e6 F ((bC t).length+1) n rows:=by
 unfold gq at h2 ⊢
 by_cases hr:row.length≠1
 · rw [if_pos hr] at h2; cases h2
 · rw [if_neg hr] at h2 ⊢
   exact ⟨_,rfl,by have :=qd (row.getD 0 []) 8192 h2; omega,pc h h1 (Classical.not_not.1 hr) (nO h2)⟩
theorem vN {u:Tx} {a:Value} (h:a.oneCell'=true):[str u,a].all Value.oneCell'=true :=by rw [List.all_cons,List.all_cons,h]; rfl
def wW (l e:Nat):Value:= .agg [.int .i64 2,.int .i64 (l:Nat),.int .i64 (e:Nat)].toArray
def wU (w':World) (B0:Nat) (xs:List bR) (v:Value):Prop := ∃ B a c i vs,B0≤B∧v= .tuple #[.pointer (some ⟨a,0,none⟩),.agg [.int .i64 0,.int .i64 0,.int .i64 0].toArray]∧gW w' B a c i vs xs∧B0≤a∧B0≤c
def wT (e:Nat×Nat) (v:Value):Prop :=v= .tuple #[.pointer none,wW e.1 e.2]
def gw (F:aG) (t:Tx) (w:World) (v:Value) (w':World):Prop :=(match fz F t with | .ok xs=>wU w' w.heap.size xs v | .error e=>wT e v)∧Wk w w'
theorem gw.no {F:aG} {t:Tx} {w w':World} {l e:Nat} (h:fz F t= .error (l,e)) (hm:Wk w w'):gw F t w (.tuple #[.pointer none,.agg [.int .i64 2,.int .i64 (l:Nat),.int .i64 (e:Nat)].toArray]) w':=by
 unfold gw; rw [h]; exact ⟨rfl,hm⟩
theorem sS (B fb mc:Nat) (F:aG) (V:c5) (t:Tx) (w:World) (bN:bB w B fb mc F V) (cZ:∃ seen,fO F [] seen) (hnx:Nx F) (hs:t.length≤1048576):
 aT Tryz.prog 11 (List.toArray [aU fb,str t]) w (gw F t w):=by
 refine enter Tryz.func11 rfl Tryz.ntmps11 rfl ?_
 refine ab (fun _ cc=>(p aw (e (fK jM fun a4 w5 hb5 bP bH=> ?_))))
 have bG:a9 w5.heap a4 [.int .i64 0,.int .i64 0,.int .i64 0]:=⟨_,bH⟩
 refine aj ((cc _ _ (sq (fun _ cn=>ab (fun _ cr=>(ae (aU fb) (p (jv oe rfl rfl) (nl ?_))))))))
 refine tn (cr _ _ (cf (rfl) (aA (tn (cn _ _ (ab (fun _ ct=>(ae (str t) (e (cl r4 (vD t _ hs) rfl fun eA bu dl=> ?_))))))))))
 obtain ⟨⟨ee,rfl,b1⟩,hE22⟩:=dl
 have hE22x:=bP.md.trans hE22
 have hz5:=bP.size
 refine p mv (p (xt rfl rfl) (p (xt rfl rfl) (p aw (ag (((ct _ _ (sq (fun _ cu=> ?_)))))))))
 refine ab (fun _ cw=>(p mv (p (ej rfl rfl) (aj ((cw _ _ (cd rfl (fun bq=> ?_) (fun bq=> ?_))))))))
 have bY:65536 < t.length:=Classical.byContradiction fun h=>bq (by rw [if_neg h])
 refine ab (fun _ a1=>(p mv (e (cl jV (k4 0 (if 65536 < t.length then 10 else 0) bu) rfl fun eB w28 dm=> ?_))))
 obtain ⟨rfl,a7⟩:=dm
 have hz28:=(hE22.trans a7).size
 refine p aw (e (b0 fy rfl rfl rfl rfl (Wk.B (hE22.trans a7) bG) (by simp) fun eV de cV=>aj ((a1 _ _ (rt (tr (ef rfl dD (c7 (cs:= [.int .i64 2,.int .i64 0,.int .i64 (if 65536 < t.length then 10 else 0)]) rfl gz rfl (fun j hj=>cV.cC j)) ?_)))))))
 have h:=gw.no (F:=F) (AP bY) ((hE22x.trans a7).trans' de (fun q A h=>by omega))
 show gw F t w (.tuple #[.pointer none,.agg [.int .i64 2,.int .i64 0,.int .i64 (if 65536 < t.length then 10 else 0)].toArray]) _
 rw [if_pos bY]
 exact h
 have aC:¬65536 < t.length:=fun h=>bq (by rw [if_pos h]; decide)
 rw [if_neg aC] at b1
 obtain ⟨ca,bz,rfl⟩:=dw b1
 have hll:=ky t
 refine aA (tn (cu _ _ (ab (fun _ a1=>(ae (str t) (e (cl r3 (vk t _ hs) rfl fun eD w31 dn=> ?_)))))))
 obtain ⟨⟨eg,rfl,hcs⟩,hE31⟩:=dn
 rw [if_neg aC] at hcs
 obtain ⟨cb,aR,aS⟩:=hcs
 obtain ⟨bv,aF,rfl⟩:=dw aR
 have hE31x:=hE22x.trans hE31
 have hb5x:=Wk.B (hE22.trans hE31) bG
 have hz31:=(hE22.trans hE31).size
 have hrl:=vg t
 refine p mv (p (xt rfl rfl) (p (xt rfl rfl) (p aw (ag (((a1 _ _ (sq (fun _ cx=> ?_)))))))))
 refine ab (fun _ cy=>(p mv (p (bl om rfl rfl) (p (bo rfl rfl) (aj ((cy _ _ (cd rfl (fun bs=> ?_) (fun bs=> ?_)))))))))
 have dV:cI t= []:=List.eq_nil_of_length_eq_zero (by omega)
 refine ab (fun _ aV=>(p mv (p (bl dT rfl rfl) (p (a8 (((bC t).length+1:Nat):Int) rfl rfl (aI (by omega) (by omega))) (e (cl jV (k4 ((bC t).length+1:Nat) 116 w31) rfl fun eE eM dq=> ?_))))))
 obtain ⟨rfl,ba⟩:=dq
 have hz40:=ba.size
 exact p aw (e (b0 fy rfl rfl rfl rfl (Wk.B ba hb5x) (by simp) fun eX df cX=>aj ((aV _ _ (rt (tr (ef rfl dD (c7 (cs:= [.int .i64 2,U ((bC t).length+1),.int .i64 116]) rfl gz rfl (fun j hj=>cX.cC j)) (gw.no (AQ aC dV) ((hE31x.trans ba).trans' df (fun q A h=>by omega))))))))))
 obtain ⟨⟨ln0,an⟩,rest,hrw⟩:∃ q rest,cI t=q::rest:=by
  cases h:cI t with
  | nil=>rw [h] at bs; exact absurd rfl bs
  | cons q rest=>exact ⟨q,rest,rfl⟩
 have hvl:=aS.1
 rw [hrw] at aR aS hvl hrl
 obtain ⟨⟨q1,q2⟩,rvs',rfl⟩:∃ q vs',cb=q::vs':=by
  cases cb with
  | nil=>exact absurd hvl (by simp)
  | cons q vs'=>exact ⟨q,vs',rfl⟩
 obtain ⟨dZ,hq2⟩:=aS.2 0 (q1,q2) (ln0,an) rfl rfl
 obtain rfl :q1=ln0:=dZ
 obtain ⟨cA,cB,rfl⟩:=hq2.slice
 have hCr0:=(aB aR).2
 have hcr:=(aB aR).1
 have b3:∀ q∈(q1,an)::rest,q.2.length≤70000∧∀ x∈q.2,x.length≤70000:=fun q A=>by
  have h:=vj (show q∈cI t by rw [hrw]; exact A)
  exact ⟨by omega,fun x hx=>by have :=(h.2.2.2.2 x hx).2; omega⟩
 have hm0:=b3 _ (List.mem_cons_self ..)
 simp only [List.length_cons] at hvl hrl hcr
 refine aA (tn (cx _ _ (ab (fun _ aV=>(p mv (p (aH k9 rfl rfl (by rw [hrw]; simp only [List.length_cons]; omega) (ak.ok (hCr0) (nU (by simp)))) (p (dp mV rfl (rfl) (nV (i:=0) hCr0 rfl)) (e (cl yJ (AM q1 an bu.heap.size cA cB w31 hq2 hm0.2 hm0.1) rfl fun eG w45 dr=> ?_)))))))))
 obtain ⟨rfl,hE45⟩:=dr
 have hz45:=hE45.size
 refine p mv (p (xt rfl rfl) (p (xt rfl rfl) (p aw (ag (((aV _ _ (sq (fun _ ce=> ?_)))))))))
 refine ab (fun _ cg=>(p mv (p (ej rfl rfl) (aj ((cg _ _ (cd rfl (fun bZ=> ?_) (fun bZ=> ?_))))))))
 obtain ⟨em,dP,bm⟩:=AK (F:=F) aC hrw bZ
 refine ab (fun _ aW=>(p mv (p (aH k9 rfl rfl (by rw [hrw]; simp only [List.length_cons]; omega) (ak.ok (hCr0.wk hE45) (nU (by simp)))) (p (fa nB rfl) (p (ld eu rfl (nV (i:=0) (hCr0.wk hE45) rfl 0 (by decide))) (p mv (e (cl jV (k4 (q1:Nat) (gq an).2 w45) rfl fun eH eN ds=> ?_))))))))
 obtain ⟨rfl,bb⟩:=ds
 have hz55:=bb.size
 refine p aw (e (b0 fy rfl rfl rfl rfl (Wk.B (hE45.trans bb) hb5x) (by simp) fun eQ c6 cG=>aj ((aW _ _ (rt (tr (ef rfl dD (c7 (cs:= [.int .i64 2,U q1,.int .i64 (gq an).2]) rfl gz rfl (fun j hj=>cG.cC j)) ?_)))))))
 have h:=gw.no bm ((hE31x.trans (hE45.trans bb)).trans' c6 (fun q A h=>by omega))
 show gw F t w (.tuple #[.pointer none,.agg [.int .i64 2,U q1,.int .i64 (gq an).2].toArray]) _
 rw [dP]
 exact h
 obtain ⟨n,hn0,ev,bm⟩:=AL (F:=F) aC hrw (show (gq an).2=0 by omega)
 have hFB:=bN.wk (hE31x.trans hE45)
 obtain ⟨seen,bI⟩:=cZ
 have hbl:=bI.len
 refine aA (tn (ce _ _ (ab (fun _ aW=>(e (mj fun J w56 ep bj cR=> ?_))))))
 have hz56:=bj.size
 refine p (bT (ps:= [(1,.map (some J))]) (L:= [.slice none 0 0,.map (some J)]) FD rfl (rfl)) (e (oL rfl fun C w58 er aP cS=> ?_))
 have hz58:=aP.size
 have hE58:=hE45.trans (bj.md.trans aP.md)
 refine ag (((aW _ _ (ab (fun _ ch=>(ae (aU fb) (e (cl yK (xj B fb mc F V w58 (hFB.wk (bj.md.trans aP.md)) (by omega) hnx) rfl fun eI w60 dt=> ?_))))))))
 obtain ⟨⟨ed,rfl,_⟩,hE60⟩:=dt
 have hz60:=hE60.size
 refine p (BJ B3 rh rfl rfl) (e (al GJ fun a2 w12 hb12 aN cH=> ?_))
 have hz12:=aN.size
 refine e (b0 Al rfl rfl rfl rfl (cH) (by simp) fun wt13_4 aL cJ=> ?_)
 have c1:Wk w31 wt13_4:=(hE58.trans (hE60.trans aN.md)).trans' aL (fun q A h=>by omega)
 have hz13:=aL.size
 have dJ:wt13_4.heap[C]? =some (.cells [.slice none 0 0,.map (some J)].toArray 108 (0,0)):=aL.au (Wk.au (hE60.trans aN.md) cS) (fun h=>by omega)
 have dR:bf wt13_4.heap J eC (fun _=>none):=bf.md (bf.wk (bf.nil cR) (aP.md.trans (hE60.trans aN.md))) aL (fun h=>by omega)
 have dC:gW wt13_4 wt13_4.heap.size C J (.slice none 0 0) [] []:=⟨dJ,World.ownsRow_nil _ _ _ _,bM.nil _ _ _,⟨_,dR,⟨fun s=>World.ownsRow_nil _ _ _ _,fun s _=>rfl⟩⟩⟩
 have dG:a9 wt13_4.heap a2 [az (F.sp.getD 0 0),az (F.sp.getD 1 0),az (F.sp.getD 2 0),az (F.sp.getD 3 0),az (F.sp.getD 4 0)]:=cJ
 have bK:ak w31.heap (dj bv aF 1 2) (gO rvs'):=by
  have h:=hCr0.drop (cap:=aF) (k:=1) (size:=2) (by rw [vo]; simp only [List.length_cons]; omega)
  exact h
 have dF:eF F ((bC t).length+1) (fz F t) [] (n - 0) (rest.drop 0):=by rw [bm]; exact eF.start
 refine aj ((ch _ _ (sq (fun _ ci=>ab (fun _ cj=>(p mv (p (mA k9 rfl rfl (by rw [hrw]; simp only [List.length_cons]; omega)) (p (bl om rfl rfl) ?_))))))))
 refine p mv (aj ((cj _ _ (au (lp (fun bE O wI=> ∃ (i:Nat) (xs:List bR) (vs:List Value) (ac:Value),(i≤rest.length∧i≤n)∧(xs.length=i)∧(eF F ((bC t).length+1) (fz F t) xs (n - i) (rest.drop i))∧(gW wI wt13_4.heap.size C J ac vs xs)∧(Wk w31 wI)∧(a9 wI.heap a2 [az (F.sp.getD 0 0),az (F.sp.getD 1 0),az (F.sp.getD 2 0),az (F.sp.getD 3 0),az (F.sp.getD 4 0)])∧(wt13_4.heap.size≤wI.heap.size)∧(O 0=aU fb)∧(O 5=aU a4)∧(O 6= .slice ca (bC t).length bz)∧(O 10=U n)∧(O 11=aU C)∧(O 12=aU a2)∧(O 63= .slice (dj bv aF 1 2) rest.length (aF - 1))∧(O 64=U (rest.length))∧(O 65=U i)∧(rest.length - i=bE)) _ ⟨0,[],[],.slice none 0 0,(by omega),rfl,dF,dC,c1,dG,(Nat.le_refl _),rfl,rfl,rfl,(by first | rfl | (rw [← hn0]; rfl)),rfl,rfl,(by first | rfl | (rw [hrw]; rfl)),(by first | rfl | (rw [hrw]; rfl)),rfl,rfl⟩ ?_)))))
 rintro bE O wI ⟨i,xs,vs,ac,hi,hxl,Y,ar,I,bW,ew,d0,d4,d5,d1,d2,d3,d6,d7,d8,rfl⟩
 refine fx 0 d0 (fx 5 d4 (fx 6 d5 (fx 10 d1 (fx 11 d2 (fx 12 d3 (fx 63 d6 (fx 64 d7 (fx 65 d8 (ab (fun _ ck=>(p (lt rfl rfl) (aj ((ck _ _ (sq (fun _ cm=>cd rfl (fun dL=> ?_) (fun dL=> ?_)))))))))))))))))
 refine aA (tn (cm _ _ (sq (fun _ aX=>au (sq (fun _ aY=> ?_))))))
 obtain ⟨⟨ln,r⟩,hri⟩:∃ q,rest[i]? =some q:=⟨_,List.getElem?_eq_getElem (by omega)⟩
 have dO:rest.drop i=(ln,r)::rest.drop (i+1):=by rw [List.drop_eq_getElem_cons (by omega)]; rw [List.getElem?_eq_getElem (by omega)] at hri; rw [Option.some.inj hri]
 obtain ⟨p,b9⟩:∃ p,rvs'[i]? =some p:=⟨_,List.getElem?_eq_getElem (by omega)⟩
 obtain ⟨cD,bV⟩:=aS.2 (i+1) p (ln,r) b9 hri
 obtain ⟨ln0x,ex⟩:=p
 obtain rfl :ln=ln0x:=cD.symm
 obtain ⟨a,c,rfl⟩:=bV.slice
 have hmr:=b3 (ln,r) (List.mem_cons_of_mem _ (List.mem_of_getElem? hri))
 rw [dO] at Y
 refine rg rfl (ae (U i) (p (aH k9 rfl rfl (by omega) (ak.ok (bK.wk I) (nU (by omega)))) (p (dp mV rfl (rfl) (nV (bK.wk I) b9)) (e (al wy fun bx w14 hb14 bi cK=> ?_)))))
 have hz14:=bi.size
 refine p (bw (U i) rfl) (e (b0 sy rfl rfl rfl rfl (cK) (by simp) fun wt16_5 bh cL=> ?_))
 have aK:Wk w31 wt16_5:=(I.trans bi.md).trans' bh (fun q A h=>by omega)
 have bL:Wk wI wt16_5:=bi.md.trans' bh (fun q A h=>by omega)
 have hb14:a9 wt16_5.heap bx [U ln,.slice a r.length c]:=cL
 have hz16:=bh.size
 refine aj ((aY _ _ (sq (fun _ av=>ab (fun _ co=>(ae (U i) (ae (U n) (p (bo rfl rfl) ?_))))))))
 refine aj ((co _ _ (cd rfl (fun dM=> ?_) (fun dM=> ?_))))
 refine ab (fun _ aZ=>(p (fa nB rfl) (p (ld eu rfl ((hb14.ay 0).trans rfl)) (e (cl jV (k4 (ln:Nat) 116 wt16_5) rfl fun eJ eO du=> ?_)))))
 obtain ⟨rfl,bc⟩:=du
 have hz75:=bc.size
 refine p aw (e (b0 fy rfl rfl rfl rfl (Wk.B (aK.trans bc) hb5x) (by simp) fun eR c8 cM=>aj ((aZ _ _ (rt (tr (br (tr ?_))))))))
 refine tr (br (tr (ef rfl dD (c7 (cs:= [.int .i64 2,U ln,.int .i64 116]) rfl gz rfl (fun j hj=>cM.cC j)) ?_)))
 rw [show n - i=0 by omega] at Y
 exact gw.no Y.more ((hE31x.trans (aK.trans bc)).trans' c8 (fun q A h=>by omega))
 refine aA (tn (av _ _ (ab (fun _ aZ=>(ae (aU fb) (p (dp rh rfl (rfl) (fun j hj=>(Wk.B bL bW).cC j)) (p (dp mV rfl (rfl) (fun j hj=>hb14.cC j)) (e (cl yL (AH B fb mc F V ln r bu.heap.size a c wt16_5 (bN.wk (hE31x.trans aK)) ⟨seen,bI⟩ (bV.wk aK) hmr.2 hmr.1) rfl fun eb ec dv=> ?_)))))))))
 obtain ⟨c3,bd⟩:=dv
 obtain ⟨db,ax,bD,rfl,b8,b2⟩:∃ (u:Tx) (a:Value) (e:Nat),eb= .tuple #[.agg [str u,a].toArray,U e]∧a.oneCell'=true∧((e=0∧∃ l,dH F r= .ok (u,l)∧World.ownsRow ec wt16_5.heap.size 71 1 a l.length (l.map az))∨(e≠0∧dH F r= .error e)):=by
  rcases c3 with ⟨x,a,h1,h2,h3⟩ | ⟨e,h1,h2,h3⟩
  exact ⟨x.1,a,0,h2,dA h3,.inl ⟨rfl,x.2,h1,h3⟩⟩
  exact ⟨_,_,e,h3,rfl,.inr ⟨h2,h1⟩⟩
 have hz80:=bd.size
 refine p mv (p (xt rfl rfl) (p (xt rfl rfl) (e (fK wz fun a3 w15 eo aO bF=> ?_))))
 have hz15:=aO.size
 refine e (ga iS rfl rfl rfl (vN b8) bF (by decide) fun w19 aM cN=> ?_)
 have aq:Wk wI w19:=(bL.trans (bd.trans aO.md)).trans' aM (fun q A h=>by omega)
 have bX:w19.heap[a3]? =some (.cells [str db,ax].toArray 56 (0,0)):=cN
 have hz19:=aM.size
 have dI:a9 w19.heap bx [U ln,.slice a r.length c]:=aM.B (Wk.B (bd.trans aO.md) hb14) (fun h=>by omega)
 refine ag (((aZ _ _ (sq (fun _ cp=>ab (fun _ cq=>(p mv (p (ej rfl rfl) ?_))))))))
 refine aj ((cq _ _ (cd rfl (fun dN=> ?_) (fun dN=> ?_))))
 obtain ⟨hne,hex⟩:=b2.resolve_left (fun h=>by omega)
 refine ab (fun _ a0=>(p (fa nB rfl) (p (ld eu rfl ((dI.ay 0).trans rfl)) (p mv (e (cl jV (k4 (ln:Nat) (bD:Nat) w19) rfl fun eK eP dx=> ?_))))))
 obtain ⟨rfl,bg⟩:=dx
 have hz88:=bg.size
 refine p aw (e (b0 fy rfl rfl rfl rfl (Wk.B (I.trans (aq.trans bg)) hb5x) (by simp) fun eS dc cO=>aj ((a0 _ _ (rt (tr (br (tr ?_))))))))
 exact tr (br (tr (ef rfl dD (c7 (cs:= [.int .i64 2,U ln,U bD]) rfl gz rfl (fun j hj=>cO.cC j)) (gw.no (Y.bad (by omega) hex) ((hE31x.trans (I.trans (aq.trans bg))).trans' dc (fun q A h=>by omega))))))
 obtain ⟨_,am,hex,dX⟩:=b2.resolve_right (fun h=>by omega)
 have hW19:=ar.wk aq
 have dU:¬(ac.ownBlock=some C):=cz hW19.own hW19.cells (by decide)
 have dS:¬(ac.ownBlock=some a3):=fun h=>by have :=(cU ar.own h).2; omega
 have hzw:=aq.size
 refine aA (tn (cp _ _ (sq (fun _ a0=> ?_))))
 have ai:(fun w'=>Md (fun q=>ac.ownBlock=some q) w19 w') w19.drew:=(Md.refl _ _).drew
 refine da (fun w'=>Md (fun q=>ac.ownBlock=some q) w19 w') 10 rfl wide ai (aJ 0 rfl (aU C) ai (aJ 1 rfl (aU C) ai (a5 2 rfl (fun _=>nc rfl) (fun _=>ai) (a5 3 rfl (fun _=>fa l8 rfl) (fun _=>ai) (cT 4 rfl (fun w' G=>ld mW rfl (Md.ay G ((aQ hW19.cells).trans rfl) dU)) ai (cT 5 rfl (fun w' G=>dp ic rfl (rfl) (fun j hj=>a9.cC ⟨_,Md.au G bX dS⟩ j)) ai (fM 6 rfl (by kernel_rfl) (kp n2 rfl rfl rfl fun el w95 es dh cY=> ?_))))))))
 have hE95:=eW dh.md
 have hW95:=hW19.wk hE95
 have hz95:=hE95.size
 have bS:(fun w'=>Md (fun q=>ac.ownBlock=some q) w19 w') w95:=Md.mono hE95 (fun _ _ h=>h.elim)
 refine ⟨bS,?_⟩
 refine fM 7 rfl (by kernel_rfl) (ap n2 (hW95.own) rfl (by omega) rfl (ak.ea cY) (rfl) (vN b8) (by omega) (by omega) fun aD w96 b6 M hz96 et=> ?_)
 obtain ⟨f,hf,dQ⟩:=hW95.mp
 have hc96:=M.au hW95.cells (cz hW95.own hW95.cells (by decide))
 have b7:World.ownsRow w96 wt13_4.heap.size 56 2 aD (xs++ [(db,am)]).length (gF ((xs++ [(db,am)]).zip (vs++ [ax]))):=by
  have hl:xs.length=vs.length:=by have :=hW95.fl.1; rw [List.length_map] at this; omega
  rw [List.zip_append hl,List.zip_cons_cons,List.zip_nil_right,AW,List.length_append]; exact b6
 have hz96:=M.size
 have hb12q:=M.B (Wk.B (aq.trans hE95) bW) (fun h=>by have :=(cU hW95.own h).1; omega)
 have hb15q:=M.au (Wk.au hE95 bX) (fun h=>by have :=(cU ar.own h).2; omega)
 have hE96:Wk w31 w96:=(I.trans (aq.trans hE95)).trans' M (fun q A h=>by have :=(cU hW95.own h).1; omega)
 have bk:(fun w'=>Md (fun q=>ac.ownBlock=some q) w19 w') w96:=bS.trans' M (fun _ _ h=>h)
 refine ⟨bk,?_⟩
 refine a5 8 rfl (fun _=>nc rfl) (fun _=>bk) (a5 9 rfl (fun _=>fa l8 rfl) (fun _=>bk) (bJ 10 rfl (by kernel_rfl) (by kernel_rfl) (c4 Ai rfl rfl (v:=aD) (dA b6) hc96 (by show _ < 2; omega) fun w10 Z cE=> ?_)))
 have hc10:w10.heap[C]? =some (.cells [aD,.map (some J)].toArray 108 (0,0)):=cE
 have hz10:=Z.size
 have c0:Wk w31 w10:=hE96.trans' Z (fun q A h=>by omega)
 have hb12r:=Z.B hb12q (fun h=>by omega)
 have hb15r:=Z.au hb15q (fun h=>by omega)
 have ho10x:=bA b7 Z (fun q A h=>cz b7 hc96 (by decide) (h ▸ A))
 have dz:Tg w10 wt13_4.heap.size 71 am.length ax (am.map az):=((((((Tg.fW dX).mono (by omega)).wk aO.md).md aM (ez bF (by decide))).wk hE95).md M (fc hW95.own (by decide))).md Z (ez hc96 (by decide))
 have hfl10:=(((hW95.fl.md M (fc hW95.own (by decide))).md Z (ez hc96 (by decide))).snoc dz)
 have hf10:=(hf.md M (fun h=>kD hW95.own h (fun cur z=>hf.jF))).md Z (fun h=>by omega)
 have hfm10:=(dQ.md M (fc hW95.own (by decide))).md Z (ez hc96 (by decide))
 have bt:¬(((f (str db)).getD (Value.slice none 0 0)).ownBlock=some C):=cz (hfm10.own db) hc10 (by decide)
 have b4:¬(((f (str db)).getD (Value.slice none 0 0)).ownBlock=some a3):=cz (hfm10.own db) hb15r (by decide)
 have b5:¬(((f (str db)).getD (Value.slice none 0 0)).ownBlock=some J):=fun h=>kD (hfm10.own db) h (fun cur z=>hf10.jF)
 refine c9 (by kernel_rfl) ?_
 refine tn (a0 _ _ ?_)
 have E:(fun w'=>Md (fun q=>((f (str db)).getD (Value.slice none 0 0)).ownBlock=some q) w10 w') w10.drew:=(Md.refl _ _).drew
 refine da (fun w'=>Md (fun q=>((f (str db)).getD (Value.slice none 0 0)).ownBlock=some q) w10 w') 16 rfl wide E (lq 0 rfl (by kernel_rfl) (fun _ _=>ao (aU C) rfl) E (lq 1 rfl (by kernel_rfl) (fun _ _=>nc rfl) E (lq 2 rfl (by kernel_rfl) (fun _ _=>fa tw rfl) E (lq 3 rfl (by kernel_rfl) (fun w' G=>ld q8 rfl (Md.ay G ((aQ hc10).trans rfl) bt)) E (lq 4 rfl (by kernel_rfl) (fun _ _=>fa lf rfl) E (lq 5 rfl (by kernel_rfl) (fun w' G=>ld bQ rfl (Md.ay G ((aQ hb15r).trans rfl) b4)) E (lq 6 rfl (by kernel_rfl) (fun _ _=>ao (aU C) rfl) E ?_)))))))
 refine lq 7 rfl (by kernel_rfl) (fun _ _=>nc rfl) E (lq 8 rfl (by kernel_rfl) (fun _ _=>fa tw rfl) E (lq 9 rfl (by kernel_rfl) (fun w' G=>ld q8 rfl (Md.ay G ((aQ hc10).trans rfl) bt)) E (lq 10 rfl (by kernel_rfl) (fun _ _=>fa lf rfl) E (lq 11 rfl (by kernel_rfl) (fun w' G=>ld bQ rfl (Md.ay G ((aQ hb15r).trans rfl) b4)) E (lq 12 rfl (by kernel_rfl) (fun w' G=>iX vO GP ei (bf.md (hf10) G b5) rfl rfl (⟨_,rfl⟩) (rfl)) E (lq 13 rfl (by kernel_rfl) (fun _ _=>ao (U i) rfl) E (fM 14 rfl (by kernel_rfl) (gj n4 rfl rfl fun ek w113 en dg cF=> ?_))))))))
 have hE113:=eW dg.md
 have hfm113:=hfm10.md hE113 (fun _ hk=>hk.elim)
 have hz113:=hE113.size
 have bU:(fun w'=>Md (fun q=>((f (str db)).getD (Value.slice none 0 0)).ownBlock=some q) w10 w') w113:=Md.mono hE113 (fun _ _ h=>h.elim)
 refine ⟨bU,?_⟩
 refine fM 15 rfl (by kernel_rfl) (ap n4 (hfm113.own db) rfl (by omega) rfl (ak.ea cF) (rfl) (rfl) (by have :=tU db xs; omega) (by have :=tU db xs; omega) fun d9 w114 dW aa hz114 hf114=> ?_)
 have hz114:=aa.size
 have hf114:=(hf10.wk hE113).md aa b5
 have dY:World.ownsRow w114 wt13_4.heap.size 3 1 d9 (idxs db xs++ [xs.length]).length ((idxs db xs++ [xs.length]).map mO):=by
  rw [List.length_append,List.map_append,hxl]; exact dW
 have dy:(fun w'=>Md (fun q=>((f (str db)).getD (Value.slice none 0 0)).ownBlock=some q) w10 w') w114:=bU.trans' aa (fun _ _ h=>h)
 refine ⟨dy,?_⟩
 refine bJ 16 rfl (by kernel_rfl) (by kernel_rfl) (lI vO ei (hf114) rfl rfl rfl (⟨_,rfl⟩) fun wm23_16 ah di=> ?_)
 have hput:=iK.put (x:=(db,am)) hfm113 aa dY (fun cur z=>hf114.jF) ah
 have hc23:=ah.au (aa.au (Wk.au hE113 hc10) bt) (fun h=>by omega)
 have ho114y:=bA (aE ho10x hE113) aa (fun q A=>jb (aE ho10x hE113) (hfm113.own db) (by decide) A)
 have ho23:=bA ho114y ah (fun q A h=>kD ho114y A (fun cur z=>h ▸ hf114.jF))
 have hfl23:=((hfl10.wk hE113).md aa (fc (hfm113.own db) (by decide))).md ah (fun k hk cur z h=>hf114.jF (hk ▸ h))
 have dE:gW wm23_16 wt13_4.heap.size C J aD (vs++ [ax]) (xs++ [(db,am)]):=⟨hc23,ho23,by rw [List.map_append]; exact hfl23,⟨_,di,hput⟩⟩
 have c2:Wk w31 wm23_16:=((c0.trans hE113).trans' aa (fun q A h=>by have :=(cU (hfm113.own db) h).1; omega)).trans' ah (fun q A h=>by omega)
 have hb12s:=ah.B (aa.B (Wk.B hE113 hb12r) (fun h=>by have :=(cU (hfm113.own db) h).1; omega)) (fun h=>by omega)
 have hz23:=ah.size
 refine c9 (by kernel_rfl) ?_
 exact bn (tn (aX _ _ (rg rfl (p (ad rfl rfl (bp (by omega))) (p mv (aj ((⟨_,by omega,i+1,xs++ [(db,am)],vs++ [ax],aD,(by omega),((by rw [List.length_append,hxl]; rfl)),((by rw [show n - (i+1)=n - i - 1 by omega]; exact Y.step (by omega) hex)),dE,c2,hb12s,((by omega)),rfl,rfl,rfl,(by first | rfl | (rw [← hn0]; rfl)),rfl,rfl,(by first | rfl | (rw [hrw]; rfl)),(by first | rfl | (rw [hrw]; rfl)),rfl,rfl⟩))))))))
 refine ext (te _ (te _ (be (tn (ci _ _ (sq (fun _ aX=>sq (fun _ aY=> ?_))))))))
 obtain ⟨eh,cv,rfl⟩:=dw ar.own
 refine rg rfl (ae (aU C) (p (nc rfl) (p (fa l8 rfl) (p (ld mW rfl ((aQ ar.cells).trans rfl)) (p (bl kI rfl rfl) (ae (U n) (p (lt rfl rfl) ?_)))))))
 refine aj ((aY _ _ (cd rfl (fun dK=> ?_) (fun dK=> ?_))))
 refine ab (fun _ av=>(ae (.slice ca (bC t).length bz) (p (bl dT rfl rfl) (p (a8 (((bC t).length+1:Nat):Int) rfl rfl (aI (by omega) (by omega))) (e (cl jV (k4 ((bC t).length+1:Nat) 116 wI) rfl fun ey eL dk=> ?_))))))
 obtain ⟨rfl,a6⟩:=dk
 have hz126:=a6.size
 refine p aw (e (b0 fy rfl rfl rfl rfl (Wk.B (I.trans a6) hb5x) (by simp) fun eT dd cP=>aj ((av _ _ (rt (tr (ef rfl dD (c7 (cs:= [.int .i64 2,U ((bC t).length+1),.int .i64 116]) rfl gz rfl (fun j hj=>cP.cC j)) ?_)))))))
 rw [List.drop_eq_nil_of_le (by omega)] at Y
 exact gw.no (Y.ends (by omega)) ((hE31x.trans (I.trans a6)).trans' dd (fun q A h=>by omega))
 refine aA (tn (aX _ _ (ab (fun _ av=>(ae (aU C) (p (bT (ps:= []) (L:= [.int .i64 0,.int .i64 0,.int .i64 0]) kH rfl (rfl)) (p (bw (aU C) rfl) (e (b0 fy rfl rfl rfl rfl (Wk.B I hb5x) (by simp) fun eU bO cQ=> ?_)))))))))
 refine aj ((av _ _ (rt (ef rfl dD (c7 (cs:= [.int .i64 0,.int .i64 0,.int .i64 0]) rfl gz rfl (fun j hj=>cQ.cC j)) ?_))))
 rw [List.drop_eq_nil_of_le (by omega),show n - i=0 by omega] at Y
 have hX:=Y.done
 have dB:TF wI [27] (fun q=>q=a4):=TF.eq (cW (Wk.au (hE22.trans (hE31.trans I)) bH)) (by decide)
 unfold gw
 rw [hX]
 exact ⟨⟨wt13_4.heap.size,C,J,_,vs,by omega,rfl,ar.md bO dB (by decide) (fun h=>by omega),by omega,by omega⟩,(hE31x.trans I).trans' bO (fun q A h=>by omega)⟩
end Go.Hb.kQ
end
section
set_option maxRecDepth 20000
set_option maxHeartbeats 1000000
namespace Go.Hb.mM
open Go.Hb.cJ
open Go.Proofs
open Go.Hb.eM Go.Hb.fg Go.Hb.fF Go.Hb.jN Go.Hb.iG Go.Hb.fH Go.Hb.jP Go.Hb.kb Go.Hb.kQ
theorem GC {α:Type} {f:α×Value→List Value} {m c i:Nat} (hf:∀ q,(f q).length=m) (hc:c < m) (hs:∀ a u v,(f (a,u)).set c v=f (a,v)) {rs:List α} {vs:List Value} {v:Value} (hi:i < rs.length) (hv:i < vs.length):((rs.zip vs).flatMap f).set (i*m+c) v=(rs.zip (vs.set i v)).flatMap f:=by
 obtain ⟨r,hr⟩:∃ r,rs[i]? =some r:=⟨_,List.getElem?_eq_getElem hi⟩
 obtain ⟨u,hu⟩:∃ u,vs[i]? =some u:=⟨_,List.getElem?_eq_getElem hv⟩
 have hz:(rs.zip vs)[i]? =some (r,u):=List.getElem?_zip_eq_some.2 ⟨hr,hu⟩
 have hz2:rs.zip (vs.set i v)=(rs.zip vs).set i (r,v):=by
  apply List.ext_getElem?
  intro j
  rw [List.getElem?_set]
  by_cases hj:i=j
  · subst hj
    rw [if_pos rfl,if_pos (List.getElem?_eq_some_iff.1 hz).1]
    exact List.getElem?_zip_eq_some.2 ⟨hr,by simp [hv]⟩
  · rw [if_neg hj]
    cases h1:(rs.zip vs)[j]? with
    | none=>
      rw [List.getElem?_eq_none_iff,List.length_zip] at h1 ⊢
      rw [List.length_set]; exact h1
    | some q=>
      have h2:=List.getElem?_zip_eq_some.1 h1
      exact List.getElem?_zip_eq_some.2 ⟨h2.1,by rw [List.getElem?_set,if_neg hj]; exact h2.2⟩
 have hl:(rs.zip vs).length=min rs.length vs.length:=List.length_zip
 have hcl:((rs.zip vs).flatMap f).length=(rs.zip vs).length*m:=jX hf _
 have hle:i*m+m≤(rs.zip vs).length*m:=by rw [← Nat.succ_mul]; exact Nat.mul_le_mul_right _ (by omega)
 rw [hz2,tt hf _ (by omega)]
 apply List.ext_getElem?
 intro j
 have hg:=fun c hc=>pD hf (c:=c) hz hc
 have htl:(((rs.zip vs).flatMap f).take (i*m)).length=i*m:=by rw [List.length_take,hcl]; omega
 rw [List.getElem?_set]
 by_cases h1:j < i*m
 · rw [if_neg (by omega),List.append_assoc,List.getElem?_append_left (by omega),List.getElem?_take,if_pos h1]
 · rw [List.append_assoc,List.getElem?_append_right (by omega),htl]
   by_cases h2:j < i*m+m
   · rw [List.getElem?_append_left (by rw [hf]; omega)]
     obtain ⟨d,rfl⟩:∃ d,j=i*m+d:=⟨j - i*m,by omega⟩
     rw [hg d (by omega),show i*m+d - i*m=d by omega,← hs r u v,List.getElem?_set]
     by_cases h3:c=d
     · subst h3; rw [if_pos rfl,if_pos rfl,if_pos (by rw [hcl]; omega),if_pos (by rw [hf]; exact hc)]
     · rw [if_neg (by omega),if_neg h3]
   · rw [if_neg (by omega),List.getElem?_append_right (by rw [hf]; omega),hf,List.getElem?_drop]
     congr 1; omega
theorem A4 {xs:List bR} {vs:List Value} {i:Nat} {v:Value} (hi:i < xs.length) (hv:i < vs.length):(gF (xs.zip vs)).set (i*2 +1) v=gF (xs.zip (vs.set i v)):=GC (f:=il) (m:=2) (c:=1) (fun _=>rfl) (by decide) (fun _ _ _=>rfl) hi hv
theorem ks {l:List (bR×Value)} {i:Nat} {q:bR×Value} (h:l[i]? =some q):gF l≠[]:=fun h2=>by
 have h3:=AX l
 have h4:=(List.getElem?_eq_some_iff.1 h).1
 rw [h2] at h3
 have h5:0=l.length*2:=h3
 omega
theorem A3 {w:World} {B e:Nat} {xs:List bR} {vs:List Value} {ls:List (List Nat)} (h:bM w B e vs ls):(gF (xs.zip vs)).all Value.oneCell'=true :=by
 rw [List.all_eq_true]
 intro v hv
 obtain ⟨q,a,hv⟩:=List.mem_flatMap.1 hv
 have h1:=List.all_eq_true.1 (oI h) q.2 (List.of_mem_zip a).2
 simp only [il,List.mem_cons,List.not_mem_nil,or_false] at hv
 rcases hv with rfl | rfl
 · rfl
 · exact h1
def jm (w:World) (B:Nat) (vs:List Value) (ls:List (List Nat)):Prop :=vs.length=ls.length∧∀ (i:Nat) v l,vs[i]? =some v→ls[i]? =some l→World.ownsRow w B 71 1 v l.length (l.map az)
theorem jm.t {w:World} {B:Nat} {vs:List Value} {ls:List (List Nat)} (h:jm w B vs ls):bM w B 71 vs ls:=⟨h.1,fun i v l h1 h2=>Tg.fW (h.2 i v l h1 h2)⟩
theorem rq {G:Nat→Prop} {w w':World} {B:Nat} {vs:List Value} {ls:List (List Nat)} (h:jm w B vs ls) (hm:Md G w w') (a:∀ k,G k→∀ cur z,w.heap[k]?≠some (.cells cur 71 z)):jm w' B vs ls:=⟨h.1,fun i v l h1 h2=>bA (h.2 i v l h1 h2) hm (fun k hk hg=>kD (h.2 i v l h1 h2) hk (a k hg))⟩
theorem xr (w:World) (B:Nat):jm w B [] []:=⟨rfl,fun i v l hv=>by simp at hv⟩
theorem xq {w:World} {B i:Nat} {vs:List Value} {ls:List (List Nat)} {v:Value} (h:jm w B (vs.take i) (ls.take i)) (hi:i < ls.length) (hv:i < vs.length) (c:World.ownsRow w B 71 1 v (ls.getD i []).length ((ls.getD i []).map az)):jm w B ((vs.set i v).take (i+1)) (ls.take (i+1)):=by
 refine ⟨by simp; have :=h.1; simp at this; omega,fun j u l h1 h2=> ?_⟩
 rw [List.getElem?_take] at h1 h2
 by_cases hj:j < i+1
 · rw [if_pos hj] at h1 h2
   rw [List.getElem?_set] at h1
   by_cases a:i=j
   · subst a
     rw [if_pos rfl,if_pos hv] at h1
     cases h1
     rw [show ls.getD i []=l by rw [List.getD_eq_getElem?_getD,h2]; rfl] at c
     exact c
   · rw [if_neg a] at h1
     exact h.2 j u l (by rw [List.getElem?_take,if_pos (by omega)]; exact h1) (by rw [List.getElem?_take,if_pos (by omega)]; exact h2)
 · rw [if_neg hj] at h1; cases h1
theorem AS (B i E:Nat) (G:Value) (vs:List Value) (xs:List bR) (w:World) (j:gW w B i E G vs xs) (hx:xs.length≤70000):
 aT Tryz.prog 17 (List.toArray [aU i]) w (fun v w'=>v=U (xs.length)∧Wk w w'):=by
 obtain ⟨a,c,rfl⟩:=dw j.own
 refine enter Tryz.func17 rfl Tryz.ntmps17 rfl ?_
 refine ab (fun _ q=>(ag (((q _ _ (sq (fun _ s=>ab (fun _ A=> ?_))))))))
 refine ae (aU i) (p (jv og rfl rfl) (aj ((A _ _ (cf (rfl) (aA (tn (s _ _ (sq (fun _ C=> ?_))))))))))
 refine rg rfl (ae (aU i) (p (nc rfl) (p (fa l8 rfl) (p (ld mW rfl ((aQ j.cells).trans rfl)) (p (bl kI rfl rfl) (p aw (nl ?_)))))))
 exact tn (C _ _ (rt (f1 rfl rfl (⟨rfl,Md.refl _ _⟩))))
theorem sQ (B C aL:Nat) (ah:Value) (vs:List Value) (xs:List bR) (w:World) (s:gW w B C aL ah vs xs) (hx:xs.length≤70000) (hl:∀ x∈xs,x.2.length≤64):
 aT Tryz.prog 16 (List.toArray [aU C]) w (fun v w'=>(∃ vs,World.ownsRow w' w.heap.size 56 2 v xs.length (gF (xs.zip vs))∧bM w' w.heap.size 71 vs (xs.map (·.2))∧jm w' w.heap.size vs (xs.map (·.2)))∧Wk w w'):=by
 refine enter Tryz.func16 rfl Tryz.ntmps16 rfl ?_
 refine ab (fun _ ai=>(ag (((ai _ _ (sq (fun _ am=>ab (fun _ an=> ?_))))))))
 refine ae (aU C) (p (jv og rfl rfl) (aj ((an _ _ (cf (rfl) (aA (tn (am _ _ (sq (fun _ ao=> ?_))))))))))
 refine rg rfl (ae (aU C) (p (nc rfl) (p (fa l8 rfl) (p (ld mW rfl ((aQ s.cells).trans rfl)) (e (cl yM (zt ah xs.length (gF (xs.zip vs)) w (Rd.fW s.own) (A3 s.fl) (by omega)) rfl fun v11 w11 hR11=> ?_))))))
 obtain ⟨ho11,aw⟩:=hR11
 obtain ⟨c,gl,rfl⟩:=dw ho11
 have hsl:vs.length=xs.length:=by have :=s.fl.1; rwa [List.length_map] at this
 refine ag (((ao _ _ (sq (fun _ ap=>ab (fun _ aq=>(p mv (p (bl kI rfl rfl) ?_))))))))
 refine p mv (aj ((aq _ _ (au (lp (fun Z E wI=> ∃ (i:Nat) (sa:List Value),(i≤xs.length)∧(sa.length=xs.length)∧(sa.drop i=vs.drop i)∧(jm wI w.heap.size (sa.take i) ((xs.map (·.2)).take i))∧(World.ownsRow wI w.heap.size 56 2 (.slice c xs.length gl) xs.length (gF (xs.zip sa)))∧(Wk w wI)∧(E 3= .slice c xs.length gl)∧(E 13=U (xs.length))∧(E 14=U i)∧(xs.length - i=Z)) _ ⟨0,vs,(by omega),hsl,rfl,(xr _ _),ho11,aw,rfl,rfl,rfl,rfl⟩ ?_)))))
 rintro Z E wI ⟨i,sa,hi,aI,ac,hal,a,A,aG,aD,aF,rfl⟩
 refine fx 3 aG (fx 13 aD (fx 14 aF (ab (fun _ ar=>(p (lt rfl rfl) (aj ((ar _ _ (sq (fun _ av=>cd rfl (fun ay=> ?_) (fun ay=> ?_)))))))))))
 refine aA (tn (av _ _ (sq (fun _ G=>au (sq (fun _ al=> ?_))))))
 obtain ⟨aN,aJ,J⟩:=bM.get (s.wk A).fl (show i < (xs.map (·.2)).length by rw [List.length_map]; omega)
 obtain ⟨Y,ci,rfl⟩:=J.slice
 obtain ⟨x,V⟩:∃ x,xs[i]? =some x:=⟨_,List.getElem?_eq_getElem (by omega)⟩
 have aK:(xs.map (·.2)).getD i []=x.2:=by rw [List.getD_eq_getElem?_getD,List.getElem?_map,V]; rfl
 have hxl:=hl x (List.mem_of_getElem? V)
 rw [← aK] at hxl
 have O:(xs.zip sa)[i]? =some (x,.slice Y ((xs.map (·.2)).getD i []).length ci):=List.getElem?_zip_eq_some.2 ⟨V,(pj ac).trans aJ⟩
 refine rg rfl (ae (U i) (p (bw (U i) rfl) (aj ((al _ _ (rg rfl (ae (.slice c xs.length gl) (ae (U i) ?_))))))))
 refine ae (.slice c xs.length gl) (ae (U i) (p (aH kt rfl rfl (by omega) (ak.ok ((aB a).2) (ks O))) (p (fa jw rfl) (p (ld gZ rfl (im (f:=il) (m:=2) (fun _=>rfl) (aB a).2 O 1 (by decide))) (e (cl m9 (ng Y ((xs.map (·.2)).getD i []).length ci (((xs.map (·.2)).getD i []).map az) wI J.bN.2 (by simp) (fun h=>Tg.nM J (by simp) h) (m3 _) (by omega)) rfl fun aM aO ax=> ?_))))))
 obtain ⟨M,hE24⟩:=ax
 have hz24:=hE24.size
 refine p (aH kt rfl rfl (by omega) (ak.ok ((aB (aE a hE24)).2) (ks O))) (p (fa jw rfl) (e (lE (j:=i*2 +1) (aE a hE24) np rfl rfl (dA M) (by rw [Int.toNat_natCast]; omega) (by omega) fun w7 I aa=> ?_)))
 rw [A4 (by omega) (by omega)] at aa
 have hE7:Wk w w7:=Wk.own (A.trans hE24) (aE a hE24) I (by omega)
 have ho24x:=bA (fX M (show w.heap.size≤wI.heap.size from A.size)) I (fun q aC=>jb M (aE a hE24) (by decide) aC)
 have hal7:=rq (rq hal hE24 (fun _ hk=>hk.elim)) I (fc (aE a hE24) (by decide))
 refine nl (bn (tn (G _ _ (rg rfl (p (ad rfl rfl (bp (by omega))) (p mv (nl (tn ?_))))))))
 exact ⟨_,by omega,i+1,sa.set i aM,(by omega),((by rw [List.length_set]; exact aI)),(jP.set_drop ac),(xq hal7 (by rw [List.length_map]; omega) (by omega) ho24x),aa,hE7,rfl,rfl,rfl,rfl⟩
 refine ext (te _ (te _ (be (tn (ap _ _ (ab (fun _ G=>(ae (.slice c xs.length gl) ?_))))))))
 refine p (bw (.slice c xs.length gl) rfl) (aj ((G _ _ (rt (f1 rfl rfl ?_)))))
 rw [List.take_of_length_le (by omega),List.take_of_length_le (by rw [List.length_map]; omega)] at hal
 exact ⟨⟨sa,a,hal.t,hal⟩,A⟩
end Go.Hb.mM
end
section
set_option maxRecDepth 20000
set_option maxHeartbeats 1000000
namespace Go.Hb.oE
open Go.Proofs
open Go.Hb.eM Go.Hb.fg Go.Hb.jk Go.Hb.fF Go.Hb.jl Go.Hb.j9 Go.Hb.lO
structure wX where
 rb:Nat
 fb:Nat
 eof:Nat
 vr:Value
 vs:List (Nat×Value)
 rows:List Rw
section
variable {w w':World} {B k ln:Nat} {H:wX} {seen:List Tx} {vh:Value}
end
end Go.Hb.oE
end
section
set_option maxRecDepth 20000
set_option maxHeartbeats 1000000
namespace Go.Hb.mL
open Go.Hb.cJ
open Go.Proofs
open Go.Hb.eM Go.Hb.fg Go.Hb.fF Go.Hb.jN Go.Hb.iG Go.Hb.kN Go.Hb.fH Go.Hb.jP Go.Hb.kb Go.Hb.kQ Go.Hb.mM Go.Hb.oE
theorem A8 (a b c i j p:Int) (w:World):(binOp .eql 25 (.agg [.int .i64 a,.int .i64 b,.int .i64 c].toArray) (.agg [.int .i64 i,.int .i64 j,.int .i64 p].toArray)).run Tryz.prog w= .ok (.bool (decide (a=i∧b=j∧c=p))) w:=by
 have u1:=Tryz.underlying3
 have u2:=Tryz.underlying3
 have u3:=Tryz.underlying23
 have q:Tryz.prog.underlying 25=some (.struct (Tryz.prog.fieldsOf 25)):=by kernel_rfl
 have hp:Tryz.prog.stoodInHeld 25=false :=by kernel_rfl
 rw [run_eql_struct,show (10000:Nat)=9999 +1 from rfl,run_equalIn_agg w 9999 25 _ _ q hp]
 simp only [Program.fieldsOf,Tryz.underlying25]
 go_simp
 by_cases h1:a=i <;> by_cases h2:b=j <;> by_cases h3:c=p <;> simp [h1,h2,h3]
section
variable {N:Fm} {σ:Nat→Value} {w:World} {dst:Option Nat} {ty:TypeId} {pos :String} {af:Array Edge} {g:Option (Nat×Bool)} {x y:Operand}
theorem uC {s:TypeId} {a b c i j p:Int} (hx:ev N σ x= .agg [.int .i64 a,.int .i64 b,.int .i64 c].toArray) (hy:ev N σ y= .agg [.int .i64 i,.int .i64 j,.int .i64 p].toArray):
 (execOp (ev N σ) ⟨dst,.binOp .neq 25 x y s,ty,pos,af,g⟩).run Tryz.prog w= .ok (.value (.bool (decide (¬(a=i∧b=j∧c=p))))) w:=by
 have hm:Tryz.prog.eqGuardType Tryz.prog.depth 25=false :=by kernel_rfl
 have hg:=run_eqGuard_agg w .neq 25 x y [.int .i64 a,.int .i64 b,.int .i64 c].toArray [.int .i64 i,.int .i64 j,.int .i64 p].toArray hm
 have he:(binOp .neq 25 (.agg [.int .i64 a,.int .i64 b,.int .i64 c].toArray) (.agg [.int .i64 i,.int .i64 j,.int .i64 p].toArray)).run Tryz.prog w= .ok (.bool (decide (¬(a=i∧b=j∧c=p)))) w:=by
  have h:=A8 a b c i j p w
  simp only [binOp,Sem.run_bind] at h ⊢
  generalize ((Op.equal 25 (.agg [.int .i64 a,.int .i64 b,.int .i64 c].toArray) (.agg [.int .i64 i,.int .i64 j,.int .i64 p].toArray)).run Tryz.prog w)=r at h ⊢
  cases r with
  | ok q A=>
    simp only [Result.andThen_ok,Sem.run_pure,Result.ok.injEq,Value.bool.injEq] at h ⊢
    rw [h.1]
    exact ⟨(decide_not).symm,h.2⟩
  | halt q A=>simp [Result.andThen] at h
 simp only [execOp,hx,hy,Sem.run_bind,hg,he,Result.andThen_ok,Sem.run_pure]
end
end Go.Hb.mL
end
section
set_option maxRecDepth 20000
set_option maxHeartbeats 1000000
namespace Go.Hb.qW
open Go.Hb.cJ
open Go.Proofs
open Go.Hb.eM Go.Hb.fg Go.Hb.fF Go.Hb.fH Go.Hb.kb Go.Hb.kQ Go.Hb.mL
theorem rev_succ {l:Tx} {k:Nat} (h:k < l.length):l.reverse.take (k+1)=l.reverse.take k++ [l.getD (l.length - 1 - k) 0]:=by
 rw [gU _ k 0 (by simpa using h)]
 congr 2
 rw [List.getD_eq_getElem?_getD,List.getD_eq_getElem?_getD,List.getElem?_reverse h]
theorem Az (n:Nat) (w:World) (hn:n≤1048576):
 aT Tryz.prog 20 (List.toArray [U n]) w (fun v w'=>v=str (dG n)∧Wk w w'):=by
 refine enter Tryz.func20 rfl Tryz.ntmps20 rfl ?_
 refine ab (fun _ al=>(ag (((al _ _ (sq (fun _ ar=>ab (fun _ av=> ?_))))))))
 refine ae (U n) (p (bo rfl rfl) (aj ((av _ _ (cd rfl (fun aS=> ?_) (fun aS=> ?_))))))
 obtain rfl :n=0:=by omega
 refine ab (fun _ M=>(ag (((M _ _ (rt (tr (f1 rfl rfl ?_))))))))
 exact ⟨rfl,Md.refl _ _⟩
 refine aA (tn (ar _ _ (ab (fun _ M=>(e (jU gR fun ah w10 hb10 aO aG=> ?_))))))
 have aY:World.ownsRow w10 w.heap.size 5 1 (.slice (some ⟨ah,0,none⟩) 0 0) (([]:Tx)).length (U8 (([]:Tx))):=aG _ (by omega)
 refine ag (((M _ _ (ab (fun _ ax=>(ae (U n) (p (bw (U n) rfl) (nl ?_))))))))
 refine tn (ax _ _ (sq (fun _ ay=>au (lp (fun a A wI=> ∃ (m:Nat) (l:Tx) (q:Value),(m≤n)∧(l++cA m m=(cA n n))∧(World.ownsRow wI w.heap.size 5 1 (q) (l).length (U8 (l)))∧(Wk w wI)∧(A 0=U n)∧(A 3=q)∧(A 4=U m)∧(m=a)) _ ⟨n,[],.slice (some ⟨ah,0,none⟩) 0 0,(Nat.le_refl _),rfl,aY,aO.md,rfl,rfl,rfl,rfl⟩ ?_))))
 rintro a A wI ⟨m,l,q,hm,hl,i,Z,aZ,a0,a1,rfl⟩
 refine fx 0 aZ (fx 3 a0 (fx 4 a1 ?_))
 have hdl:=sL n n
 have hll:l.length≤n:=by have h:=congrArg List.length hl; rw [List.length_append] at h; omega
 have hsz:=Z.size
 refine sq (fun _ az=>ab (fun _ aC=>(ae (U m) (p (ej rfl rfl) (aj ((aC _ _ (cd rfl (fun aQ=> ?_) (fun aQ=> ?_)))))))))
 refine aA (tn (az _ _ (au (ab (fun _ O=>(ae (U m) (p (rm rfl rfl (by omega)) (p aw ?_))))))))
 refine aj ((O _ _ (sq (fun _ E=>ab (fun _ G=>(p mv (p (lt rfl rfl) (nl ?_))))))))
 refine tn (G _ _ (cd rfl (fun h=>absurd h (by omega)) (fun bc=> ?_)))
 refine aA (tn (E _ _ (ab (fun _ I=>(ae (q) (p mv (p (a8 ((48 +m % 10:Nat):Int) rfl rfl (aI (by omega) (by omega))) (p (ik u5 kK rfl (F7 (48 +m % 10))) ?_))))))))
 refine e (gj gR rfl rfl fun a7 bj ba aa aJ=> ?_)
 have hE24:=Z.trans aa.md
 refine e (ap gR (aE i aa.md) rfl (by have :=hE24.size; omega) rfl (ak.ea aJ) (rfl) (rfl) (by omega) (by omega) fun a5 w25 aW aM bh bf=> ?_)
 have hE25:=Wk.own hE24 (aE i aa.md) aM (Nat.le_refl _)
 have ho25x:=qq (x:=UInt8.ofNat (48 +m % 10)) aW
 refine ag (((I _ _ (rg rfl (ae (U m) (p (jG ((m / 10:Nat):Int) rfl rfl (by omega) (aI (by omega) (by omega))) (p aw (nl ?_))))))))
 exact bn (tn (⟨_,Nat.div_lt_self (by omega) (by decide),m / 10,l++ [UInt8.ofNat (48 +m % 10)],a5,(by omega),((by rw [← hl,lZ (m:=m) (by omega),List.append_assoc]; rfl)),ho25x,hE25,rfl,rfl,rfl,rfl⟩))
 refine ext (te _ (te _ (be (tn (ay _ _ (ab (fun _ O=>(e (jU gR fun ai w28 hb28 aP aK=> ?_)))))))))
 obtain rfl :m=0:=by omega
 rw [sM,List.append_nil] at hl
 subst hl
 obtain ⟨V,Y,rfl⟩:=dw i
 have hCD:=(aB i).2
 have aV:World.ownsRow w28 wI.heap.size 5 1 (.slice (some ⟨ai,0,none⟩) 0 0) (([]:Tx)).length (U8 (([]:Tx))):=aK _ (by omega)
 refine ag (((O _ _ (sq (fun _ E=>ab (fun _ G=>(ae (U n) (p (lt rfl rfl) ?_))))))))
 refine aj ((G _ _ (cd rfl (fun h=>absurd h (by omega)) (fun bd=> ?_))))
 refine aA (tn (E _ _ (sq (fun _ I=>ab (fun _ am=>(ae (.slice V (cA n n).length Y) (p (bl jK rfl rfl) (p (sb rfl rfl (bp (by omega))) ?_))))))))
 refine ag (((am _ _ (au (lp (fun a C ad=> ∃ (k:Nat) (s:Value),(k≤(cA n n).length)∧(World.ownsRow ad wI.heap.size 5 1 (s) (((cA n n).reverse.take k)).length (U8 (((cA n n).reverse.take k))))∧(Wk wI ad)∧(C 3= .slice V (cA n n).length Y)∧(C 6=s)∧(C 7= .int .i64 ((((cA n n).length:Nat):Int) - 1 - (k:Nat)))∧((cA n n).length - k=a)) _ ⟨0,.slice (some ⟨ai,0,none⟩) 0 0,(by omega),aV,aP.md,rfl,rfl,(iv (by omega)),rfl⟩ ?_)))))
 rintro a C ad ⟨k,s,hk,j,c,a2,a3,a4,rfl⟩
 refine fx 3 a2 (fx 6 a3 (fx 7 a4 ?_))
 have htl:((cA n n).reverse.take k).length=k:=by rw [List.length_take,List.length_reverse]; omega
 have hszJ:=c.size
 refine sq (fun _ an=>ab (fun _ aq=>(p (ao (.int .i64 ((((cA n n).length:Nat):Int) - 1 - (k:Nat))) rfl) (p (ge rfl rfl) (aj ((aq _ _ (cd rfl (fun aR=> ?_) (fun aR=> ?_)))))))))
 refine aA (tn (an _ _ (sq (fun _ J=>au (rg rfl (ae (s) (ae (.slice V (cA n n).length Y) (p (ao (.int .i64 ((((cA n n).length:Nat):Int) - 1 - (k:Nat))) rfl) ?_))))))))
 refine p (aH jW rfl rfl (by omega) (ak.ok (hCD.wk c) (ou (by omega)))) (p (ld mX rfl (by rw [show (((((cA n n).length:Nat):Int) - 1 - (k:Nat)).toNat)=(cA n n).length - 1 - k from by omega]; exact ot (hCD.wk c) (by omega))) (e (gj gR rfl rfl fun a9 w46 bb ac aL=> ?_)))
 have hE46:=c.trans ac.md
 refine e (ap gR (aE j ac.md) rfl (by have :=hE46.size; omega) rfl (ak.ea aL) (rfl) (rfl) (by omega) (by omega) fun a6 bk aX aN bi bg=> ?_)
 have hE47:=Wk.own hE46 (aE j ac.md) aN (Nat.le_refl _)
 have ho47x:=qq aX
 refine p aw (nl (bn (tn (J _ _ (rg rfl (p (ao (.int .i64 ((((cA n n).length:Nat):Int) - 1 - (k:Nat))) rfl) (p (sb rfl rfl (bp (by omega))) (p aw ?_))))))))
 exact aj ((⟨_,by omega,k+1,a6,(by omega),((by rw [rev_succ (by omega)]; exact ho47x)),hE47,rfl,rfl,(iv (by omega)),rfl⟩))
 refine ext (te _ (te _ (be (tn (I _ _ (sq (fun _ J=> ?_)))))))
 obtain ⟨aD,aF,rfl⟩:=dw j
 refine rg rfl (ae (.slice aD ((cA n n).reverse.take k).length aF) (p (nm m6 rfl ((aB j).2) (rfl)) (ag (((J _ _ (rt (f1 rfl rfl ?_))))))))
 have aU:(cA n n).reverse.take k=(cA n n).reverse:=List.take_of_length_le (by rw [List.length_reverse]; omega)
 exact ⟨by rw [aU,dG,if_neg (show ¬n=0 by omega)]; rfl,Z.trans c⟩
theorem A6 (x:bR) (a b:Option Addr) (c d:Nat) (w:World) (V:ak w.heap a (x.2.map az)) (Y:ak w.heap b (x.2.map az)) (hl:x.2.length≤1048576):
 aT Tryz.prog 21 (List.toArray [.agg [str x.1,.slice a x.2.length c].toArray,.agg [str x.1,.slice b x.2.length d].toArray]) w (fun v w'=>v= .bool true∧Wk w w'):=by
 refine enter Tryz.func21 rfl Tryz.ntmps21 rfl ?_
 refine ab (fun _ aa=>(e (ig rfl fun I aE hb2 ar hB2=> ?_)))
 have hB2x:a9 aE.heap I [str x.1,.slice a x.2.length c]:=hB2
 refine e (ig rfl fun M w3 aF Z aq=> ?_)
 have A:Wk w w3:=ar.md.trans Z.md
 have J:a9 w3.heap M [str x.1,.slice b x.2.length d]:=aq
 have E:a9 w3.heap I [str x.1,.slice a x.2.length c]:=Wk.B Z.md hB2x
 refine ag (((aa _ _ (sq (fun _ ah=>ab (fun _ ai=>(p (fa lf rfl) (p (ld bQ rfl (E.cC 0)) ?_))))))))
 refine p (fa lf rfl) (p (ld bQ rfl (J.cC 0)) (p (lx rfl rfl) (p mv (gs (t:=11) rfl (fun h=>absurd h (fun h=>h rfl)) (fun hg11=> ?_)))))
 refine pg rfl rfl rfl (fa jw rfl) (pg rfl rfl rfl (ld gZ rfl (E.cC 1)) (pg rfl rfl rfl (bl gV rfl rfl) (pg rfl rfl rfl (fa jw rfl) (pg rfl rfl rfl (ld gZ rfl (J.cC 1)) (pg rfl rfl rfl (bl gV rfl rfl) (pg rfl rfl rfl (ej rfl rfl) (p (bc rfl) ?_)))))))
 refine aj ((ai _ _ (cd rfl (fun h=>absurd h (fun h=>h rfl)) (fun aG=> ?_))))
 refine aA (tn (ah _ _ (sq (fun _ al=>ab (fun _ am=>(p (fa jw rfl) (p (ld gZ rfl (E.cC 1)) (p (bl gV rfl rfl) ?_))))))))
 refine p mv (aj ((am _ _ (au (lp (fun O C wI=> ∃ (i:Nat),(i≤x.2.length)∧(Wk w3 wI)∧(C 2=aU I)∧(C 3=aU M)∧(C 22=U (x.2.length))∧(C 23=U i)∧(x.2.length - i=O)) _ ⟨0,(by omega),(Md.refl _ _),rfl,rfl,rfl,rfl,rfl⟩ ?_)))))
 rintro O C wI ⟨i,hi,q,ax,aD,aB,aC,rfl⟩
 refine fx 2 ax (fx 3 aD (fx 22 aB (fx 23 aC (ab (fun _ an=>(p (lt rfl rfl) (aj ((an _ _ (sq (fun _ ao=>cd rfl (fun av=> ?_) (fun av=> ?_))))))))))))
 refine aA (tn (ao _ _ (sq (fun _ G=>au (ab (fun _ ap=>(ae (U i) (p (bw (U i) rfl) ?_))))))))
 refine aj ((ap _ _ (sq (fun _ ac=> ?_))))
 have j:(fun w'=>Wk wI w') wI.drew:=(Md.refl _ _).drew
 refine bF (fun w'=>Wk wI w') rfl wide j (aK 0 rfl (fun _ _=>fa jw rfl) j (aK 1 rfl (fun w' s=>ld gZ rfl (Wk.ay s ((Wk.B q E).cC 1))) j (bm 2 rfl (U i) j (aK 3 rfl (fun _ _=>aH aY rfl rfl (by omega) (ak.ok ((V.wk A).wk q) (bG (by omega)))) j (aK 4 rfl (fun w' s=>ld ba rfl (Wk.ay s (ak.gA ((V.wk A).wk q) (show (x.2.map az)[i]? =some (az (x.2.getD i 0)) by rw [List.getElem?_map,List.getD_eq_getElem?_getD,List.getElem?_eq_getElem (by omega :i < x.2.length)]; rfl)))) j ?_)))))
 refine aK 5 rfl (fun _ _=>fa jw rfl) j (aK 6 rfl (fun w' s=>ld gZ rfl (Wk.ay s ((Wk.B q J).cC 1))) j (bm 7 rfl (U i) j (aK 8 rfl (fun _ _=>aH aY rfl rfl (by omega) (ak.ok ((Y.wk A).wk q) (bG (by omega)))) j (aK 9 rfl (fun w' s=>ld ba rfl (Wk.ay s (ak.gA ((Y.wk A).wk q) (show (x.2.map az)[i]? =some (az (x.2.getD i 0)) by rw [List.getElem?_map,List.getD_eq_getElem?_getD,List.getElem?_eq_getElem (by omega :i < x.2.length)]; rfl)))) j ?_))))
 refine aK 10 rfl (fun _ _=>ej rfl rfl) j (hn (by kernel_rfl) (tn (ac _ _ (cd rfl (fun h=>absurd h (fun h=>h rfl)) (fun aI=> ?_)))))
 refine aA (bn (tn (G _ _ (rg rfl (p (ad rfl rfl (bp (by omega))) (p mv (nl (tn ?_))))))))
 exact ⟨_,by omega,i+1,(by omega),(q.trans j),rfl,rfl,rfl,rfl,rfl⟩
 refine ext (te _ (te _ (be (tn (al _ _ (ab (fun _ G=>(p aw ?_))))))))
 exact aj ((G _ _ (rt (f1 rfl rfl (⟨rfl,A.trans q⟩)))))
end Go.Hb.qW
end
section
set_option maxRecDepth 20000
set_option maxHeartbeats 1000000
namespace Go.Hb.qY
open Go.Hb.cJ
open Go.Proofs
open Go.Hb.eM Go.Hb.fg Go.Hb.fF Go.Hb.jN Go.Hb.iG Go.Hb.kN Go.Hb.fH Go.Hb.jP Go.Hb.kb Go.Hb.kQ Go.Hb.mM Go.Hb.mL Go.Hb.oE
theorem Gh (w:World):
 aT Tryz.prog 13 (List.toArray []) w (fun v w'=>v= .bool true∧Wk w w'):=by
 refine enter Tryz.func13 rfl Tryz.ntmps13 rfl ?_
 refine ab (fun _ ah=>(ag (((ah _ _ (ab (fun _ ai=>(e (cl gk (q7 ow w (by decide)) rfl fun a8 w7 hR7=> ?_)))))))))
 obtain ⟨U,hE7⟩:=hR7
 rw [Gj] at U
 obtain ⟨fb,mc,V,aM,hF7,av,az⟩:=U
 subst aM
 refine p mv (p (xt rfl rfl) (p (xt rfl rfl) (e (al jM fun aQ a9 hb2 I hB2=> ?_))))
 have hz2:=I.size
 have hz7:=hE7.size
 refine p aw (e (b0 fy rfl rfl rfl rfl (hB2) (by simp) fun wt1_6 G aV=> ?_))
 have C:Wk w7 wt1_6:=I.md.trans' G (fun q aI h=>by omega)
 have hz1:=G.size
 refine aj ((ai _ _ (ab (fun _ am=>(p mv (e (cl gl (sS w.heap.size fb mc lK V qK wt1_6 (hF7.wk C) av az (by decide)) rfl fun dd w12 aC=> ?_)))))))
 obtain ⟨O,hE12⟩:=aC
 rw [Gk] at O
 obtain ⟨B,ae,aa,ac,vs,aU,aL,aF,_⟩:=O
 subst aL
 refine p mv (p (xt rfl rfl) (p (xt rfl rfl) (e (al jM fun aR w4 aW J au=> ?_))))
 have hz4:=J.size
 have hz12:=hE12.size
 refine p aw (e (b0 fy rfl rfl rfl rfl (au) (by simp) fun wt2_7 ay ar=> ?_))
 have E:Wk w12 wt2_7:=J.md.trans' ay (fun q aI h=>by omega)
 have hW2:=aF.wk E
 refine aj ((am _ _ (sq (fun _ an=>ab (fun _ ao=>(p mv (p (jv og rfl rfl) (p mv ?_))))))))
 refine gb (t:=17) rfl (fun h=>absurd (h.symm.trans (rfl)) Bool.noConfusion) (fun aZ=> ?_)
 refine pg rfl rfl rfl (dp gz rfl (rfl) (fun j hj=>ar.cC j)) (pg rfl rfl rfl (bT (ps:= []) (L:= [.int .i64 0,.int .i64 0,.int .i64 0]) kH rfl (rfl)) (pg rfl rfl rfl (uC rfl rfl) (p (bc rfl) (p mv (gs (t:=22) rfl (fun h=>absurd h (fun h=>h ⟨rfl,rfl,rfl⟩)) (fun a0=> ?_))))))
 refine pg rfl rfl rfl mv (eg rfl rfl rfl (cl yv (AS B ae aa ac vs kL wt2_7 hW2 (by decide)) rfl fun a6 ad aD=> ?_))
 obtain ⟨rfl,hE24⟩:=aD
 have hW24:=hW2.wk hE24
 refine pg rfl rfl rfl (ej rfl rfl) (p (bc rfl) (aj ((ao _ _ (cd rfl (fun h=>absurd h (fun h=>h rfl)) (fun aX=> ?_))))))
 refine aA (tn (an _ _ (ab (fun _ ap=>(p mv (e (cl rX (sQ B ae aa ac vs kL ad hW24 (by decide) (by decide)) rfl fun a7 w28 aE=> ?_)))))))
 obtain ⟨aG,ax⟩:=aE
 obtain ⟨vx,Y,M,_⟩:=aG
 have hsl:=dw Y
 obtain ⟨aP,aS,aN⟩:=hsl
 subst aN
 obtain ⟨a5,aJ,c⟩:=bM.get M (show 0 < (kL.map (·.2)).length by decide)
 obtain ⟨u1,aK,hT1⟩:=bM.get M (show 1 < (kL.map (·.2)).length by decide)
 have hs0:=c.slice
 obtain ⟨s,A,aO⟩:=hs0
 subst aO
 have c:Tg w28 ad.heap.size 71 1 (.slice s 1 A) [.int .u16 (65:Nat)]:=c
 have hC:=(aB Y).2
 have a:(kL.zip vx)[0]? =some (([102,108,121],[65]),.slice s 1 A):=List.getElem?_zip_eq_some.2 ⟨rfl,aJ⟩
 have Z:(kL.zip vx)[1]? =some (([105,110,47,111,117,116],[]),u1):=List.getElem?_zip_eq_some.2 ⟨rfl,aK⟩
 refine ag (((ap _ _ (ab (fun _ aq=>(p mv (p (bl kI rfl rfl) (p (bo rfl rfl) ?_))))))))
 refine p mv (gs (t:=32) rfl (fun a1=> ?_) (fun h=>absurd rfl h))
 refine pg rfl rfl rfl mv (pg rfl rfl rfl (aH kt rfl rfl (by decide) (ak.ok (hC) (ks a))) (pg rfl rfl rfl (fa lf rfl) (pg rfl rfl rfl (ld bQ rfl (im (f:=il) (m:=2) (i:=0) (fun _=>rfl) hC a 0 (by decide))) (pg rfl rfl rfl (e7 rfl rfl) (p (bu rfl) (p mv (gs (t:=39) rfl (fun a2=> ?_) (fun h=>absurd rfl h))))))))
 refine pg rfl rfl rfl mv (pg rfl rfl rfl (aH kt rfl rfl (by decide) (ak.ok (hC) (ks a))) (pg rfl rfl rfl (fa jw rfl) (pg rfl rfl rfl (ld gZ rfl (im (f:=il) (m:=2) (i:=0) (fun _=>rfl) hC a 1 (by decide))) (pg rfl rfl rfl (bl gV rfl rfl) (pg rfl rfl rfl (bo rfl rfl) (p (bu rfl) (p mv ?_)))))))
 refine gs (t:=47) rfl (fun a3=> ?_) (fun h=>absurd rfl h)
 refine pg rfl rfl rfl mv (pg rfl rfl rfl (aH kt rfl rfl (by decide) (ak.ok (hC) (ks a))) (pg rfl rfl rfl (fa jw rfl) (pg rfl rfl rfl (ld gZ rfl (im (f:=il) (m:=2) (i:=0) (fun _=>rfl) hC a 1 (by decide))) (pg rfl rfl rfl (aH aY rfl rfl (by decide) (ak.ok (c.bN.2) (by simp))) (pg rfl rfl rfl (ld ba rfl (ak.gA (i:=0) c.bN.2 rfl)) (pg rfl rfl rfl (bo rfl rfl) (p (bu rfl) ?_)))))))
 refine p mv (gs (t:=56) rfl (fun a4=> ?_) (fun h=>absurd rfl h))
 refine pg rfl rfl rfl mv (pg rfl rfl rfl (aH kt rfl rfl (by decide) (ak.ok (hC) (ks Z))) (pg rfl rfl rfl (fa lf rfl) (pg rfl rfl rfl (ld bQ rfl (im (f:=il) (m:=2) (i:=1) (fun _=>rfl) hC Z 0 (by decide))) (pg rfl rfl rfl (e7 rfl rfl) (p (bu rfl) (p aw (nl ?_)))))))
 exact tn (aq _ _ (rt (f1 rfl rfl (⟨congrArg Value.bool (decide_eq_true rfl),hE7.trans (C.trans (hE12.trans (E.trans (hE24.trans ax))))⟩))))
end Go.Hb.qY
end
section
set_option maxRecDepth 20000
set_option maxHeartbeats 1000000
namespace Go.Hb.qZ
open Go.Hb.cJ
open Go.Proofs
open Go.Hb.eM Go.Hb.fg Go.Hb.fF Go.Hb.jN Go.Hb.iG Go.Hb.kN Go.Hb.fH Go.Hb.ib Go.Hb.q6 Go.Hb.jP Go.Hb.kb Go.Hb.kQ Go.Hb.mM Go.Hb.mL Go.Hb.qW Go.Hb.gx Go.Hb.qY
theorem wg (l:List Tx) (i:Nat):(l.getD i []).length≤j8 l:=by
 unfold j8
 induction l generalizing i with
 | nil=>simp
 | cons x l ih=>
   cases i with
   | zero=>simp
   | succ i=>have :=ih i; simp at*; omega
theorem wu:∀ (x acc:Tx),ec acc (bP x)=(acc++x,[],false,0):=by
 intro x
 induction x with
 | nil=>intro acc; show ec acc []=_; rw [mJ,List.append_nil]
 | cons b x ih=>
   intro acc
   have e:bP (b::x)=(if fS b=true then [92,b] else [b])++bP x:=rfl
   rw [e]
   by_cases hb:fS b=true
   · rw [if_pos hb]
     show ec acc (92::b::bP x)=_
     rw [qM (by decide) hb,ih,List.append_assoc]; rfl
   · rw [if_neg hb]
     have h:¬(b.toNat=92∨b.toNat=47∨b.toNat=35):=fun h=>hb (decide_eq_true h)
     show ec acc (b::bP x)=_
     rw [qN (by omega) (by omega),ih,List.append_assoc]; rfl
theorem Gz {x:Tx} {b:UInt8} (h:b∈bP x):b=92∨b∈x:=by
 unfold bP at h
 obtain ⟨c,hc,hb⟩:=List.mem_flatMap.1 h
 split at hb
 · simp only [List.mem_cons,List.not_mem_nil,or_false] at hb
   rcases hb with rfl | rfl
   · exact .inl rfl
   · exact .inr hc
 · simp only [List.mem_cons,List.not_mem_nil,or_false] at hb
   subst hb; exact .inr hc
theorem mI {x:Tx} (h:eX x=true):x≠[]∧x.length≤64∧dB x=true∧∀ b∈x,33≤b.toNat:=by
 have h:=of_decide_eq_true h
 refine ⟨fun e=>by rw [e] at h; simp at h,h.2.1,h.2.2,fun b hb=> ?_⟩
 have h2:=List.all_eq_true.1 h.2.2 b hb
 exact (of_decide_eq_true h2).1
theorem qQ {x:Tx} (h:eX x=true) {b:UInt8} (hb:b∈bP x):33≤b.toNat:=by
 rcases Gz hb with rfl | hb
 · decide
 · exact (mI h).2.2.2 b hb
theorem wv {x:Tx} (h:eX x=true):kR (bP x):=by
 obtain ⟨h1,_,_,_⟩:=mI h
 refine ⟨fun e=> ?_,fun b hb=> ?_,?_,fun hb=> ?_⟩
 · have :=wu x []; rw [e,mJ] at this; exact h1 (by simpa using (congrArg (·.1) this).symm)
 · have :=qQ h hb; rw [nI]; exact decide_eq_false (by omega)
 · cases x with
   | nil=>exact absurd rfl h1
   | cons b x=>
     unfold kF
     by_cases hb:fS b=true
     · have e:bP (b::x)=92::b::bP x:=by show (if fS b=true then [92,b] else [b])++bP x=_; rw [if_pos hb]; rfl
       rw [e]; rfl
     · have e:bP (b::x)=b::bP x:=by show (if fS b=true then [92,b] else [b])++bP x=_; rw [if_neg hb]; rfl
       have h2:¬(b.toNat=92∨b.toNat=47∨b.toNat=35):=fun h=>hb (decide_eq_true h)
       rw [e]; exact decide_eq_false (by show ¬b.toNat=35; omega)
 · have :=qQ h hb; exact absurd this (by decide)
theorem Gy {x:Tx} (h:eX x=true):eO (bP x)=bP x:=by
 refine pk fun h2=> ?_
 have hm:=du (d:=(0:UInt8)) (l:=bP x) (i:=(bP x).length - 1) (by omega)
 rw [h2.2] at hm
 have :=qQ h hm
 exact absurd this (by decide)
def fk (ws:List Tx):Tx:=ws.flatMap fun x=>bP x++ [10]
theorem kW (ws:List Tx) (x:Tx):fk (ws++ [x])=fk ws++(bP x++ [10]):=by simp [fk]
theorem xw:∀ (ws:List Tx),(∀ x∈ws,eX x=true)→cR [] (fk ws)=ws.map bP:=by
 intro ws
 induction ws with
 | nil=>intro _; exact p8
 | cons x ws ih=>
   intro h
   have hx:=h x (by simp)
   have e:fk (x::ws)=bP x++10::fk ws:=by simp [fk]
   rw [e,uw _ _ _ (wv hx).2.2.2,List.nil_append,Gy hx,ih fun y hy=>h y (by simp [hy])]; rfl
theorem At (n:Nat):eO (dG n)=dG n:=by
 refine pk fun h2=> ?_
 have hm:=du (d:=(0:UInt8)) (l:=dG n) (i:=(dG n).length - 1) (by omega)
 rw [h2.2] at hm
 have :=k3 hm
 exact absurd this (by decide)
theorem xx:fR []= .ok dW:=by
 unfold fR
 rw [if_neg (by decide)]
 have e:cI []= []:=by decide
 rw [e]; rfl
theorem xz {x:Tx} (h:eX x=true):dH dW [bP x]= .ok (x,[]):=by
 obtain ⟨h1,h2,h3,_⟩:=mI h
 have hr:aW ([bP x].getD 0 [])=(x,[],false,0):=wu x []
 have :=pn (F:=dW) (row:= [bP x]) rfl (by rw [hr]) (by rw [hr]; exact h3) (by rw [hr]; exact h1) (by rw [hr]; show ¬64 < x.length; omega) (by rw [hr])
 rw [hr] at this; exact this
theorem xy {ws:List Tx} (h:∀ x∈ws,eX x=true) (hl:ws.length≤8192) (hs:¬65536 < (dG ws.length++ [10]++fk ws).length):fz dW (dG ws.length++ [10]++fk ws)= .ok (ws.map fun x=>(x,[])):=by
 have a:bC (dG ws.length++ [10]++fk ws)=dG ws.length::ws.map bP:=by
  unfold bC
  rw [Gb (by rw [List.append_assoc]; exact Ga),List.append_assoc]
  show cR [] (dG ws.length++10::fk ws)=_
  rw [uw _ _ _ (sN _).2.2.2,List.nil_append,At,xw ws h]
 have c:∀ y∈ws.map bP,kR y:=fun y hy=>by
  obtain ⟨x,hx,rfl⟩:=List.mem_map.1 hy
  exact wv (h x hx)
 have hrw:cI (dG ws.length++ [10]++fk ws)=(1,[dG ws.length])::((ws.map bP).zipIdx 2).map fun p=>(p.2,[p.1]):=by
  unfold cI
  rw [a,fD,(sN _).row,EW _ _ c]; rfl
 rw [pc hs hrw rfl (Aw hl)]
 have hlen:(((ws.map bP).zipIdx 2).map fun p=>((p.2,[p.1]):Rw)).length=ws.length:=by simp
 conv =>lhs; arg 3; rw [← hlen]
 refine A7 ?_
 rw [List.map_map,List.map_map]
 have e:(((ws.map bP).zipIdx 2).map ((fun q:Rw=>dH dW q.2)∘fun p=>((p.2,[p.1]):Rw)))=(((ws.map bP).zipIdx 2).map Prod.fst).map fun y=>dH dW [y]:=by rw [List.map_map]; rfl
 rw [e,List.zipIdx_map_fst,List.map_map]
 refine List.map_congr_left fun x hx=> ?_
 exact xz (h x hx)
theorem AN (ws:List Tx) (a:Option Addr) (c:Nat) (w:World) (Y:bE w.heap a ws) (hwl:ws.length+j8 ws≤1048576):
 aT Tryz.prog 9 (List.toArray [.slice a ws.length c]) w (fun v w'=>v= .bool true∧Wk w w'):=by
 refine enter Tryz.func9 rfl Tryz.ntmps9 rfl ?_
 refine ab (fun _ aX=>(ag (((aX _ _ (sq (fun _ a4=>ab (fun _ a8=> ?_))))))))
 refine e (cl ya (Gh w) rfl fun cF w13 bD=> ?_)
 obtain ⟨rfl,bv⟩:=bD
 refine p (no rfl) (aj ((a8 _ _ (cf (rfl) (aA (tn (a4 _ _ (ab (fun _ ba=> ?_)))))))))
 refine ag (((ba _ _ (ab (fun _ bb=>(ag (((bb _ _ ?_)))))))))
 refine sq (fun _ bd=>ab (fun _ bf=>(ae (.slice a ws.length c) (p (bl dT rfl rfl) (p mv (aj ((bf _ _ ?_))))))))
 refine au (lp (fun ah aa wI=> ∃ (i:Nat) (s:List Tx) (A:Option Addr) (C:Nat),(i≤ws.length)∧(∀ y∈s,eX y=true)∧(s.length≤8192)∧((fk s).length≤40200)∧(World.ownsRow wI w.heap.size 9 1 (.slice A s.length C) (s).length ((s).map str))∧(Wk w wI)∧(aa 3= .slice A s.length C)∧(aa 4=str (fk s))∧(aa 15= .slice a ws.length c)∧(aa 16=U (ws.length))∧(aa 17=U i)∧(ws.length - i=ah)) _ ⟨0,[],none,0,(by omega),((fun _ h=>by cases h)),(by decide),(by decide),(World.ownsRow_nil _ _ _ _),bv,rfl,(by first | rfl | (rw [kW]; rfl)),rfl,rfl,rfl,rfl⟩ ?_)
 rintro ah aa wI ⟨i,s,A,C,hi,hf,hfl,htl,Z,I,b6,b7,b3,b4,b5,rfl⟩
 refine fx 3 b6 (fx 4 b7 (fx 15 b3 (fx 16 b4 (fx 17 b5 ?_))))
 have hsz:=I.size
 refine ab (fun _ bg=>(p (lt rfl rfl) (aj ((bg _ _ (sq (fun _ bh=>cd rfl (fun hc18=> ?_) (fun hc18=> ?_))))))))
 refine aA (tn (bh _ _ (sq (fun _ M=>au (ab (fun _ an=>(p (aH bZ rfl rfl (by omega) (ak.ok ((Y.wk I)) (bG (by omega)))) (p (ld bQ rfl (bE.get (i:=i) (Y.wk I) (by omega))) ?_))))))))
 refine ag (((an _ _ (ab (fun _ ac=>(p mv (e (cl yE (E5 (ws.getD i []) wI (by have :=wg ws i; omega)) rfl fun cG cO bH=> ?_))))))))
 obtain ⟨rfl,G⟩:=bH
 refine p mv (gb (t:=23) rfl (fun am=> ?_) (fun am=> ?_))
 refine pg rfl rfl rfl (ao (.slice A s.length C) rfl) (pg rfl rfl rfl (bl dT rfl rfl) (pg rfl rfl rfl (lt rfl rfl) (p (bu rfl) (p mv (gs (t:=28) rfl (fun bY=> ?_) (fun bY=> ?_))))))
 refine pg rfl rfl rfl (ao (str (fk s)) rfl) (pg rfl rfl rfl (bV u9 rfl rfl) (pg rfl rfl rfl (lt rfl rfl) (p (bu rfl) (aj ((ac _ _ (cd rfl (fun bU=> ?_) (fun bU=> ?_))))))))
 refine ab (fun _ aq=>(ae (.slice A s.length C) (p mv (e (gj fE rfl rfl fun cs w35 cw av br=> ?_)))))
 have hE35:=(I.trans G).trans av.md
 refine e (ap fE (aE (aE Z G) av.md) rfl (by have :=hE35.size; omega) rfl (ak.ea br) (rfl) (rfl) (by omega) (by omega) fun cH w36 b1 bB cD cz=> ?_)
 have hE36:=Wk.own hE35 (aE (aE Z G) av.md) bB (Nat.le_refl _)
 have ho36x:=nQ b1
 obtain ⟨bi,jV,rfl⟩:=dw ho36x
 refine ag (((aq _ _ (rg rfl (ae (str (fk s)) (p mv (e (cl yF (GA (ws.getD i []) w36 (by have :=wg ws i; omega)) rfl fun cI w39 bI=> ?_))))))))
 obtain ⟨rfl,aF⟩:=bI
 have hE39x:=hE36.trans aF
 have hwl64:=oB (ws.getD i [])
 have hvl64:=(mI am).2.1
 have ho36x:=aE ho36x aF
 refine p (cc rfl rfl (by show _+1≤_; omega)) (p (cc rfl rfl (by simp only [List.length_append,List.length_singleton]; omega)) (p aw (nl (bn (tn (M _ _ (rg rfl (p (ad rfl rfl (bp (by omega))) ?_))))))))
 exact p mv (aj ((⟨_,by omega,i+1,s++ [(ws.getD i [])],bi,jV,(by omega),((fun y hy=>(List.mem_append.1 hy).elim (hf y) fun h=>by rw [List.mem_singleton.1 h]; exact am)),((by rw [List.length_append,List.length_singleton]; omega)),((by rw [kW]; have :=oB (ws.getD i []); have :=(mI am).2.1; simp only [List.length_append,List.length_singleton]; omega)),ho36x,hE39x,rfl,(by first | rfl | (rw [kW]; rfl)),rfl,rfl,rfl,rfl⟩)))
 refine aA (bn (tn (M _ _ (rg rfl (p (ad rfl rfl (bp (by omega))) (p mv (nl (tn ?_))))))))
 exact ⟨_,by omega,i+1,s,A,C,(by omega),hf,hfl,htl,(aE Z G),(I.trans G),rfl,(by first | rfl | (rw [kW]; rfl)),rfl,rfl,rfl,rfl⟩
 refine sk rfl rfl rfl rfl (sk rfl rfl rfl rfl (sk rfl rfl rfl rfl (p (bc rfl) (aj ((ac _ _ (cf rfl (aA ?_))))))))
 exact bn (tn (M _ _ (rg rfl (p (ad rfl rfl (bp (by omega))) (p mv (aj ((⟨_,by omega,i+1,s,A,C,(by omega),hf,hfl,htl,(aE Z G),(I.trans G),rfl,(by first | rfl | (rw [kW]; rfl)),rfl,rfl,rfl,rfl⟩))))))))
 refine sk rfl rfl rfl rfl (sk rfl rfl rfl rfl (sk rfl rfl rfl rfl (p (bc rfl) (p mv (sk rfl rfl rfl rfl (sk rfl rfl rfl rfl (sk rfl rfl rfl rfl ?_)))))))
 refine p (bc rfl) (aj ((ac _ _ (cf rfl (aA (bn (tn (M _ _ (rg rfl ?_)))))))))
 exact p (ad rfl rfl (bp (by omega))) (p mv (aj ((⟨_,by omega,i+1,s,A,C,(by omega),hf,hfl,htl,(aE Z G),(I.trans G),rfl,(by first | rfl | (rw [kW]; rfl)),rfl,rfl,rfl,rfl⟩))))
 refine ext (te _ (te _ (be (tn (bd _ _ (ab (fun _ M=>(e (cl gk (q7 [] wI (by decide)) rfl fun cJ co bJ=> ?_)))))))))
 obtain ⟨aS,aG⟩:=bJ
 rw [xx] at aS
 obtain ⟨fb,mc,V,ch,bz,bs,bC⟩:=aS
 subst ch
 have hCf:=(aB Z).2
 refine p mv (p (xt rfl rfl) (p (xt rfl rfl) (e (al jM fun ct w8 hb8 aO bt=> ?_))))
 have hz8:=aO.size
 have hz44:=aG.size
 refine p aw (e (b0 fy rfl rfl rfl rfl (bt) (by simp) fun wt12_6 aM cu=> ?_))
 have hE12:Wk co wt12_6:=aO.md.trans' aM (fun q b2 h=>by omega)
 have hz12:=aM.size
 refine aj ((M _ _ (ab (fun _ an=>(p mv (ae (.slice A s.length C) (p (bl dT rfl rfl) (e (cl yC (Az s.length wt12_6 (by omega)) rfl fun cK w51 bK=> ?_)))))))))
 obtain ⟨rfl,aI⟩:=bK
 have hdl:=Av s.length
 refine p (cc rfl rfl (by show _+1≤_; omega)) (ae (str (fk s)) (p (cc rfl rfl (by simp only [List.length_append,List.length_singleton]; omega)) (e (cl gl (sS wI.heap.size fb mc dW V (dG s.length++ [10]++fk s) w51 (bz.wk (hE12.trans aI)) bs bC (by simp only [List.length_append,List.length_singleton]; omega)) rfl fun cL cp bL=> ?_))))
 obtain ⟨aU,aJ⟩:=bL
 rw [xy hf hfl (by simp only [List.length_append,List.length_singleton]; omega)] at aU
 obtain ⟨B,cr,cm,cn,vs,cv,ci,bP,_⟩:=aU
 subst ci
 refine p mv (p (xt rfl rfl) (p (xt rfl rfl) (e (al jM fun bj w10 hb10 aN bk=> ?_))))
 have hz10:=aN.size
 have hz55:=aJ.size
 refine p aw (e (b0 fy rfl rfl rfl rfl (bk) (by simp) fun wt13_13 bA bq=> ?_))
 have aD:Wk cp wt13_13:=aN.md.trans' bA (fun q b2 h=>by omega)
 have bo:a9 wt13_13.heap bj [.int .i64 0,.int .i64 0,.int .i64 0]:=bq
 refine aj ((an _ _ (sq (fun _ ac=>ab (fun _ aq=>(p mv (p (jv og rfl rfl) (p mv ?_))))))))
 refine gb (t:=60) rfl (fun h=>absurd (h.symm.trans (rfl)) Bool.noConfusion) (fun cA=> ?_)
 refine pg rfl rfl rfl (dp gz rfl (rfl) (fun j hj=>bo.cC j)) (pg rfl rfl rfl (bT (ps:= []) (L:= [.int .i64 0,.int .i64 0,.int .i64 0]) kH rfl (rfl)) (pg rfl rfl rfl (uC rfl rfl) (p (bc rfl) (aj ((aq _ _ (cd rfl (fun h=>absurd h (fun h=>h ⟨rfl,rfl,rfl⟩)) (fun cx=> ?_))))))))
 refine aA (tn (ac _ _ (ab (fun _ aY=>(p mv (e (cl rX (sQ B cr cm cn vs (s.map fun x=>(x,[])) wt13_13 (bP.wk aD) (by rw [List.length_map]; omega) (fun x hx=>by obtain ⟨y,_,rfl⟩:=List.mem_map.1 hx; exact Nat.zero_le _)) rfl fun cM cq bN=> ?_)))))))
 obtain ⟨bX,bx⟩:=bN
 obtain ⟨vx,aV,bS,_⟩:=bX
 have hsl:=dw aV
 obtain ⟨ay,aC,cj⟩:=hsl
 subst cj
 have hCx:=(aB aV).2
 have hEX:=aG.trans (hE12.trans (aI.trans (aJ.trans (aD.trans bx))))
 refine ag (((aY _ _ (sq (fun _ aZ=>ab (fun _ a0=>(p mv (p (bl kI rfl rfl) ?_))))))))
 refine ae (.slice A s.length C) (p (bl dT rfl rfl) (p (ej rfl rfl) (aj ((a0 _ _ (cd rfl (fun h=>absurd h (fun h=>h (by rw [List.length_map]))) (fun cy=> ?_)))))))
 refine aA (tn (aZ _ _ (sq (fun _ a1=>ab (fun _ a2=>(p mv (p (bl kI rfl rfl) (p mv ?_))))))))
 refine aj ((a2 _ _ (au (lp (fun ah ai J=> ∃ (j:Nat),(j≤s.length)∧(Wk cq J)∧(ai 3= .slice A s.length C)∧(ai 11= .slice ay (s.map fun x=>((x,[]):bR)).length aC)∧(ai 73= .int .i64 ((s.map fun x=>((x,[]):bR)).length:Nat))∧(ai 74=U j)∧(s.length - j=ah)) _ ⟨0,(by omega),(Md.refl _ _),rfl,rfl,rfl,rfl,rfl⟩ ?_))))
 rintro ah ai J ⟨j,hj,O,b9,b8,ca,cb,rfl⟩
 refine fx 3 b9 (fx 11 b8 (fx 73 ca (fx 74 cb ?_)))
 have cB:(s.map fun x=>((x,[]):bR)).length=s.length:=List.length_map ..
 refine ab (fun _ a3=>(p (lt rfl rfl) (aj ((a3 _ _ (sq (fun _ a5=>cd rfl (fun bW=> ?_) (fun bW=> ?_))))))))
 refine aA (tn (a5 _ _ (sq (fun _ ar=>au (ab (fun _ a6=>(ae (U j) (p (bw (U j) rfl) ?_))))))))
 refine aj ((a6 _ _ (sq (fun _ a7=> ?_))))
 obtain ⟨cE,ce,aQ⟩:=bM.get bS (show j < ((s.map fun x=>((x,[]):bR)).map (·.2)).length by rw [List.length_map,List.length_map]; omega)
 have aR:(s.map fun x=>((x,[]):bR))[j]? =some (s.getD j [],[]):=by rw [List.getElem?_map,List.getD_eq_getElem?_getD,List.getElem?_eq_getElem (by omega)]; rfl
 have ck:((s.map fun x=>((x,[]):bR)).map (·.2)).getD j []= []:=by rw [List.getD_eq_getElem?_getD,List.getElem?_map,aR]; rfl
 rw [ck] at aQ
 have hsa:=aQ.slice
 obtain ⟨ax,az,cg⟩:=hsa
 subst cg
 have aW:((s.map fun x=>((x,[]):bR)).zip vx)[j]? =some ((s.getD j [],[]),.slice ax 0 az):=List.getElem?_zip_eq_some.2 ⟨aR,ce⟩
 have E:(fun w'=>Wk J w') J.drew:=(Md.refl _ _).drew
 refine bF (fun w'=>Wk J w') rfl wide E (bm 0 rfl (.slice ay (s.map fun x=>((x,[]):bR)).length aC) E (bm 1 rfl (U j) E (aK 2 rfl (fun _ _=>aH kt rfl rfl (by rw [List.length_map]; omega) (ak.ok (hCx.wk O) (ks aW))) E (aK 3 rfl (fun w' Y=>dp ic rfl (rfl) (fun j hj=>im (f:=il) (m:=2) (fun _=>rfl) (ak.wk (hCx.wk O) Y) aW j hj)) E (bm 4 rfl (.slice A s.length C) E (bm 5 rfl (U j) E (aK 6 rfl (fun _ _=>aH bZ rfl rfl (by omega) (ak.ok (hCf.wk (hEX.trans O)) (bG (by omega)))) E ?_)))))))
 refine aK 7 rfl (fun w' Y=>ld bQ rfl (bE.get (i:=j) (ak.wk (hCf.wk (hEX.trans O)) Y) (by omega))) E (aK 8 rfl (fun _ _=>bT (ps:= [(0,str (s.getD j []))]) (L:= [str (s.getD j []),.slice none 0 0]) jd rfl (rfl)) E (he 9 rfl (by kernel_rfl) (cl yD (A6 (s.getD j [],[]) ax none az 0 J.drew (ak.nil _ _) (ak.nil _ _) (Nat.zero_le _)) rfl fun cN w86 bO=> ?_)))
 obtain ⟨rfl,aL⟩:=bO
 have aP:(fun w'=>Wk J w') w86:=E.trans aL
 refine ⟨aP,?_⟩
 refine aK 10 rfl (fun _ _=>no rfl) aP (hn (by kernel_rfl) (tn (a7 _ _ (cf (rfl) (aA (bn (tn (ar _ _ (rg rfl ?_)))))))))
 exact p (ad rfl rfl (bp (by omega))) (p mv (aj ((⟨_,by omega,j+1,(by omega),(O.trans (E.trans aL)),rfl,rfl,rfl,rfl,rfl⟩))))
 refine ext (te _ (te _ (be (tn (a1 _ _ (ab (fun _ ar=>(p aw ?_))))))))
 exact aj ((ar _ _ (rt (f1 rfl rfl (⟨rfl,I.trans (hEX.trans O)⟩)))))
end Go.Hb.qZ
end
