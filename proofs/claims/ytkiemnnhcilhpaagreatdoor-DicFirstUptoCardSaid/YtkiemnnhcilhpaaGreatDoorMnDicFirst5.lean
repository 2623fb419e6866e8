/-
  Walks and plain laws that the law rests on, laid together. No conditions but those that each theorem names.
-/
import Derived.Test.YtkiemnnhcilhpaaGreatDoorMnDicFirst4
set_option linter.unusedVariables false
section
set_option maxRecDepth 20000
set_option maxHeartbeats 1000000
namespace Go.Hb.mT
open Go.Hb.cG
open Go.Proofs
open Go.Hb.fZ Go.Hb.fN Go.Hb.mQ
set_option maxHeartbeats 1000000 in
theorem vj (s:List UInt8) (w:World) (hs:s.length≤1048576):
 aK Tryz.prog 29 (List.toArray [str s]) w (fun v w'=>(∃ a,v= .tuple #[a,.int .i64 (if 65536 < s.length then 10 else 0)]∧(if 65536 < s.length then a= .slice none 0 0 else ∃ vs,World.ownsRow w' w.heap.size 105 2 a (cg s).length (gJ vs)∧ej w' w.heap.size 9 vs (cg s)))∧Wk w w'):=by
 refine sP [] Tryz.func29 rfl Tryz.ntmps29 rfl ?_
 refine dR ?_
 refine ez ?_
 refine rg rfl (p ak (p ak (nl (dX ?_))))
 refine dR ?_
 refine dR ?_
 refine ez ?_
 refine rg rfl (p (ao (str s) rfl) (p (bR u9 rfl rfl) (p (gt rfl rfl) (nl (dX ?_)))))
 refine ez ?_
 refine cd rfl (fun a3=> ?_) (fun a3=> ?_)
 refine sq (fun aB aa=>rg rfl (p ak (p ak (nl (tn (aa _ _ (rt (qq ?_))))))))
 refine sS rfl rfl rfl ?_
 have hl:65536 < s.length:=by omega
 exact ⟨⟨.slice none 0 0,by show Value.tuple #[.slice none 0 0,.int .i64 10]=_; rw [if_pos hl],by rw [if_pos hl]⟩,Md.refl _ _⟩
 refine az (dX ?_)
 refine dR ?_
 refine ez ?_
 refine rg rfl (e (fP GM fun ag w4 bC a0 aF=>nl (dX ?_)))
 refine dR ?_
 refine dR ?_
 refine ez ?_
 refine rg rfl (p (ao (str s) rfl) (e (cl rW (sJ s _) rfl fun bG w14 a1=> ?_)))
 obtain ⟨al,rfl,hb14,aD,hE14⟩:=a1
 have U:Wk w w14:=Md.trans a0.md hE14
 have bE:ag < w4.heap.size:=(Array.getElem?_eq_some_iff.1 aF).1
 have hb4x:=hE14.au aF
 have hb14l:=(Array.getElem?_eq_some_iff.1 aD).1
 have hl:s.length≤65536:=by omega
 refine nl (dX ?_)
 apply vd (nw) ((eY 1 (aR s))) (fun W=>W.heap[al]? =some (.cells [str s].toArray 9 (0,0))) (fun pre I=> ∃ v vs,I.heap[ag]? =some (.cells [v].toArray 74 (0,0))∧World.ownsRow I w14.heap.size 105 2 v (dA 1 (pre.map Prod.snd)).length (gJ vs)∧ej I w14.heap.size 9 vs (dA 1 (pre.map Prod.snd))∧I.heap[al]? =some (.cells [str s].toArray 9 (0,0))∧w14.heap.size≤I.heap.size∧Wk w I) rfl r5 (fun _=>rfl) (sI s al hl) (⟨.slice none 0 0,[],hb4x,World.ownsRow_nil _ _ _ _,ej.nil _ _ _,aD,Nat.le_refl _,U⟩) (fun _ _ ⟨_,_,_,_,_,h,_⟩=>h) (fun pre A C F ⟨v,vs,h1,h2,aN,h3,h5,h4⟩ hm Z=>⟨v,vs,oh h1 hm Z,vE h2 hm Z,aN.md hm (fun k hk cur z=>(Z k hk).2 cur _ z),oh h3 hm Z,Nat.le_trans h5 hm.size,vF h4 hm U.size Z⟩)
 intro l x I K V
 refine sq (fun aB aa=>rg rfl (p (bA (.int .i64 x.1) rfl) (nl (tn (aa _ _ (rg rfl (p (bA (str x.2) rfl) (nl ?_))))))))
 exact tn (V)
 intro l pre x rest I bk aq
 obtain ⟨v,vs,aw,ac,hrw,av,hsz,an⟩:=aq
 obtain ⟨hpl,bl,bo⟩:=qa bk
 have hll:=iS s
 have hsR:=(Array.getElem?_eq_some_iff.1 av).1
 have hxl:x.2.length≤s.length:=um (by rw [bo]; simp)
 have hfl:=pD x.2 []
 have hrl:=ve (pre.map Prod.snd) 1
 rw [List.length_map] at hrl
 refine au (sq (fun aB aa=>rg rfl (p mv (e (cl yL (Bc x.2 _ (by omega)) rfl fun bH w18 a2=> ?_)))))
 obtain ⟨ab,aQ⟩:=a2
 obtain ⟨j,ah,rfl⟩:=db ab
 have hS18:=(aA ab).2
 have hc18:=(aA ab).1
 refine p ak (nl (tn (aa _ _ ?_)))
 refine c6 (fun ai wC=> ∃ (n cp:Nat),(n≤(bQ [] x.2).length)∧(n≤cp)∧(jw (bQ [] x.2)=(bQ [] x.2).take n)∧(Wk w18 wC)∧(ai 4= .pointer (some ⟨ag,0,none⟩))∧(ai 5= .int .i64 x.1)∧(ai 7= .slice j n cp)) ?_ ?_
 refine sq (fun aJ ar=>rg rfl (p mv (p (bm dI rfl rfl) (p mv (nl (tn (ar _ _ (au ?_))))))))
 refine lp (fun aC O wI=> ∃ (i:Nat),(i≤(bQ [] x.2).length)∧(∀ q,q < i→nX ((bQ [] x.2).getD q [])=false)∧(Wk w18 wI)∧(O 4= .pointer (some ⟨ag,0,none⟩))∧(O 5= .int .i64 x.1)∧(O 7= .slice j (bQ [] x.2).length ah)∧(O 19= .slice j (bQ [] x.2).length ah)∧(O 20= .int .i64 (bQ [] x.2).length)∧(O 21= .int .i64 i)∧((bQ [] x.2).length - i=aC)) _ ⟨0,(by omega),((fun q a7=>by omega)),(Md.refl _ _),rfl,rfl,rfl,rfl,rfl,rfl,rfl⟩ ?_
 rintro aC O wI ⟨i,hi,ay,Y,bh,bi,bj,bd,bf,bg,rfl⟩
 refine fx 4 bh (fx 5 bi (fx 7 bj (fx 19 bd (fx 20 bf (fx 21 bg (sq (fun bq aU=>rg rfl (p (lt rfl rfl) (nl (tn (aU _ _ (sq (fun br aV=>cd rfl (fun a4=> ?_) (fun a4=> ?_))))))))))))))
 refine az (tn (aV _ _ (sq (fun bs aW=>au (sq (fun bt aX=>rg rfl (p (ao (.int .i64 i) rfl) (p (aG bU rfl rfl (by omega) (aj.ok (hS18.wk Y) (bN (by omega)))) ?_))))))))
 refine p (ld bY rfl (bB.get (i:=i) (hS18.wk Y) (by omega))) (p (bA (.int .i64 i) rfl) (p ak (nl (tn (aX _ _ (sq (fun bv aY=>rg rfl (p mv ?_))))))))
 refine p (gl 0 u9 rfl rfl (List.length_pos_iff.2 (ti _ _ _ (B6 (by omega))).1)) (p (ba rfl rfl) (nl (tn (aY _ _ (cd rfl (fun a5=> ?_) (fun a5=> ?_))))))
 refine sq (fun bx aZ=>rg rfl (p (ao (.slice j (bQ [] x.2).length ah) rfl) (p (ao (.int .i64 i) rfl) (p (ao (.int .i64 i) rfl) (p (zj bU rfl rfl rfl (by omega)) (p ak (nl ?_)))))))
 exact tn (aZ _ _ (ext (iD (by decide) (te _ (te _ (be (tn (⟨i,i,hi,(Nat.le_refl _),(ua hi ay (.inr (decide_eq_true (by omega)))),Y,rfl,rfl,rfl⟩))))))))
 refine az (bn (tn (aW _ _ (rg rfl (p (ad rfl rfl (bw (by omega))) (p mv (nl (tn ?_))))))))
 exact ⟨_,by omega,i+1,(by omega),((fun q a7=>by rcases Nat.lt_or_ge q i with h | h <;> first | exact ay q h | (rw [show q=i by omega]; exact decide_eq_false (by omega)))),Y,rfl,rfl,rfl,rfl,rfl,rfl,rfl⟩
 exact ext (te _ (te _ (be (tn (⟨(bQ [] x.2).length,ah,(Nat.le_refl _),hc18,((by have h:=ua hi ay (.inl (by omega)); rwa [show i=(bQ [] x.2).length from by omega] at h)),Y,rfl,rfl,rfl⟩)))))
 rintro ai wC ⟨n,cp,hn,hcp,aI,am,a8,bb,bc⟩
 refine fx 4 a8 (fx 5 bb (fx 7 bc ?_))
 have E:Wk I wC:=Md.trans aQ am
 have hbC:=E.au aw
 have hovC:=aE ac E
 have hrwC:=hrw.wk E
 have hbtC:=E.au av
 have aH:Wk w wC:=Md.trans an E
 refine sq (fun aJ ar=>rg rfl (p (ao (.slice j n cp) rfl) (p (bm dI rfl rfl) (p (gt rfl rfl) (nl (tn (ar _ _ (cd rfl (fun a6=> ?_) (fun a6=> ?_)))))))))
 have ae:j0 x.2 (1 +pre.length)= [(x.1,(bQ [] x.2).take n)]:=by unfold j0; rw [aI,if_neg (fun h=>by have h:=congrArg List.length h; rw [List.length_take,List.length_nil] at h; omega),← bl]
 refine rg rfl (p (ld kT rfl ((aM hbC).trans rfl)) (p (ao (.int .i64 x.1) rfl) (p (ao (.slice j n cp) rfl) (p (bZ (ps:= [(0,.int .i64 x.1),(1,.slice j n cp)]) (L:= [.int .i64 x.1,.slice j n cp]) FL rfl (rfl)) (e (kr vA rfl rfl rfl fun aL w41 hb41 G aO=> ?_))))))
 have aP:a9 w41.heap aL [.int .i64 x.1,.slice j n cp]:=aO
 have aS:Wk w w41:=Md.trans aH G.md
 have hov41:=aE hovC G.md
 have hb41:=G.md.au hbC
 refine e (ap vA (hov41) rfl (by have :=G.size; have :=E.size; omega) rfl (aj.dZ aP) (rfl) (rfl) (by omega) (by omega) fun bp w42 ax J bF bD=> ?_)
 have hE42:=Wk.own aS hov41 J U.size
 have hbt42:=J.au (G.md.au hbtC) (fun h=>by have :=cM hov41 h; omega)
 have hb42:=J.au hb41 (fun h=>cy hov41 hb41 (by decide) h)
 have hrw42:=(hrwC.wk G.md).md J (e9 hov41 (by decide))
 have ho42f:=bu (aE (aE ab am) G.md) J (fun k hk=>ib (aE (aE ab am) G.md) hov41 (by decide) hk)
 refine e (cV ss rfl rfl (dx ax) hb42 (by simp) fun w6 M hB6=> ?_)
 have aT:Wk w w6:=Md.trans' hE42 M (fun k hk h=>by omega)
 have hrw6:=(hrw42.md M (ep hb42 (by decide))).snoc (n:=x.1) (r:=(bQ [] x.2).take n) (v:= .slice j n cp) (by rw [List.length_take,Nat.min_eq_left hn,List.map_take]; exact (Tg.fU (fV (bu ho42f M (fun k hk h=>cy ho42f hb42 (by decide) (h ▸ hk))) hsz)).clip hcp)
 exact nl (bn (⟨(fi.wk E).trans ((fi.wk G.md).trans ((fi.md J (mq hov41)).trans (fi.md M (fun k hk=>⟨_,_,_,hk ▸ hb42⟩)))),bp,vs++ [(x.1,.slice j n cp)],hB6,(by rw [List.map_append,show [x].map Prod.snd= [x.2] from rfl,nZ,List.length_map,ae]; rw [List.length_append,Fg]; exact bu ax M (fun k hk h=>cy ax hb42 (by decide) (h ▸ hk))),(by rw [List.map_append,show [x].map Prod.snd= [x.2] from rfl,nZ,List.length_map,ae]; exact hrw6),M.au hbt42 (fun h=>by omega),Nat.le_trans hsz (Nat.le_trans E.size (Nat.le_trans G.md.size (Nat.le_trans J.size M.size))),aT⟩))
 have ae:j0 x.2 (1 +pre.length)= []:=by unfold j0; rw [aI,if_pos (by rw [show n=0 by omega]; rfl)]
 exact az (bn (⟨fi.wk E,v,vs,hbC,(by rw [List.map_append,show [x].map Prod.snd= [x.2] from rfl,nZ,List.length_map,ae]; rw [List.append_nil]; exact hovC),(by rw [List.map_append,show [x].map Prod.snd= [x.2] from rfl,nZ,List.length_map,ae]; rw [List.append_nil]; exact hrwC),hbtC,Nat.le_trans hsz E.size,aH⟩))
 intro D I bz aq V
 obtain ⟨v,vs,aw,ac,hrw,av,hsz,an⟩:=aq
 have hlt:=(Array.getElem?_eq_some_iff.1 V).1
 refine dX ?_
 refine dR ?_
 refine ez ?_
 refine rg rfl (p (ld kT rfl ((aM aw).trans rfl)) (p ak (p ak (nl (dX ?_)))))
 refine qu ?_
 refine sT rfl rfl rfl V ?_
 have hl:¬65536 < s.length:=by omega
 rw [qc] at ac hrw
 exact ⟨⟨v,by show Value.tuple #[v,.int .i64 0]=_; rw [if_neg hl],by rw [if_neg hl]; exact ⟨vs,fV (bu ac (ly _ _ _) (fun k hk h=>by obtain ⟨c,e,z,h1⟩:=mq ac k hk; rw [h,V] at h1; cases h1)) U.size,(hrw.md (ly _ _ _) (fun k hk cur z=>by rw [hk,V]; simp)).mono U.size⟩⟩,Md.trans' an (ly _ _ _) (fun k hk h=>by have :=U.size; omega)⟩
end Go.Hb.mT
end
section
set_option maxRecDepth 20000
set_option maxHeartbeats 1000000
namespace Go.Hb.j9
open Go.Hb.cG
open Go.Proofs
open Go.Hb.eJ Go.Hb.fg Go.Hb.jg Go.Hb.fz Go.Hb.im Go.Hb.j8 Go.Hb.lP Go.Hb.jL Go.Hb.qP Go.Hb.g5 Go.Hb.qQ Go.Hb.mT Go.Hb.mQ Go.Hb.fZ Go.Hb.fN
theorem ma {eof ln:Nat} {F F':aB} {hs:List Tx} {rows c:List Rw} {row:List Tx} (a:bh eof F hs rows ln row= .ok (F',c)):c.length≤rows.length:=by
 unfold bh at a
 repeat' split at a
 · unfold fX at a; split at a; cases a; cases a; exact Nat.le_refl _
 · unfold gE at a; repeat' split at a
   all_goals first | (cases a; done) | (cases a; exact Nat.le_refl _)
 · unfold jz at a; split at a; cases a; cases a; exact Nat.le_refl _
 · unfold jG at a; split at a; cases a; cases a; exact Nat.le_refl _
 · unfold gF at a; repeat' split at a
   all_goals first | (cases a; done) | (cases a; exact Nat.le_refl _)
 · unfold gH at a; repeat' split at a
   all_goals first | (cases a; done) | (cases a; exact (pN _ _ _ (by assumption)).1)
 · unfold ga at a; repeat' split at a
   all_goals first | (cases a; done) | (cases a; exact (pN _ _ _ (by assumption)).1)
 · unfold eK at a; repeat' split at a
   all_goals first | (cases a; done) | (cases a; exact (pN _ _ _ (by assumption)).1)
theorem EN {eof k:Nat} {F:aB} {hs:List Tx} :fw eof k F hs []= .ok F:=by cases k <;> simp [fw]
section
variable {eof k n:Nat} {F:aB} {hs:List Tx} {r:List Tx} {rest:List Rw} {T:Except (Nat×Nat) aB} (h:fw eof k F hs ((n,r)::rest)=T) (hk:rest.length+1≤k)
include h hk
theorem EL (h0:width (r.getD 0 [])=0):T= .error (n,110):=by
 obtain ⟨m,rfl⟩:∃ m,k=m+1:=⟨k - 1,by omega⟩
 rw [← h,fw,if_pos h0]
theorem EM (h0:width (r.getD 0 [])≠0) (h1:r.length≠width (r.getD 0 [])):T= .error (n,111):=by
 obtain ⟨m,rfl⟩:∃ m,k=m+1:=⟨k - 1,by omega⟩
 rw [← h,fw,if_neg h0,if_pos h1]
theorem u7 (h0:width (r.getD 0 [])≠0) (h1:r.length=width (r.getD 0 [])) (h2:width (r.getD 0 [])≠4) (h3:r.getD 0 []∈hs):T= .error (n,112):=by
 obtain ⟨m,rfl⟩:∃ m,k=m+1:=⟨k - 1,by omega⟩
 have hw:width (r.getD 0 [])=2:=by
  unfold width at h0 h2 ⊢
  split
  · rfl
  · rename_i hn
    rw [if_neg hn] at h0 h2
    split at h2
    · exact absurd rfl h2
    · rename_i a; rw [if_neg a] at h0; exact absurd rfl h0
 rw [← h,fw,if_neg h0,if_neg (fun h4=>h4 h1),if_pos ⟨hw,h3⟩]
theorem vb {e:Nat×Nat} (h0:width (r.getD 0 [])≠0) (h1:r.length=width (r.getD 0 [])) (h2:width (r.getD 0 [])=2→r.getD 0 []∉hs) (h3:bh eof F hs rest n r= .error e):T= .error e:=by
 obtain ⟨m,rfl⟩:∃ m,k=m+1:=⟨k - 1,by omega⟩
 rw [← h,fw,if_neg h0,if_neg (fun h4=>h4 h1),if_neg (fun h4=>h2 h4.1 h4.2),h3]
theorem vc {F':aB} {a:List Rw} (h0:width (r.getD 0 [])≠0) (h1:r.length=width (r.getD 0 [])) (h2:width (r.getD 0 [])=2→r.getD 0 []∉hs) (h3:bh eof F hs rest n r= .ok (F',a)):fw eof (k - 1) F' (hs++ [r.getD 0 []]) a=T∧a.length≤k - 1:=by
 obtain ⟨m,rfl⟩:∃ m,k=m+1:=⟨k - 1,by omega⟩
 refine ⟨?_,by have :=ma h3; omega⟩
 rw [← h,fw,if_neg h0,if_neg (fun h4=>h4 h1),if_neg (fun h4=>h2 h4.1 h4.2),h3]; rfl
end
theorem xi {s:Tx} (h:65536 < s.length):eU s= .error (0,10):=by unfold eU; rw [if_pos h]
theorem kR {s:Tx} {e:Nat×Nat} (h:¬65536 < s.length) (h1:fw ((aR s).length+1) (cg s).length fk [] (cg s)= .error e):eU s= .error e:=by unfold eU; rw [if_neg h,h1]
theorem xh {s:Tx} {F:aB} {q:eE} (h:¬65536 < s.length) (h1:fw ((aR s).length+1) (cg s).length fk [] (cg s)= .ok F) (h2:F.rules.find? (iz F)=some q):eU s= .error (q.line,118):=by unfold eU; rw [if_neg h,h1]; simp only; rw [h2]
theorem xj {s:Tx} {F:aB} (h:¬65536 < s.length) (h1:fw ((aR s).length+1) (cg s).length fk [] (cg s)= .ok F) (h2:F.rules.find? (iz F)=none):eU s= .ok F:=by unfold eU; rw [if_neg h,h1]; simp only; rw [h2]
def jY (s:Tx):Value:=match dO s with | some (.agg cs)=>cs.getD 1 .nilFunc | _=> .nilFunc
theorem Cp (s:Tx):(dO s).getD (.agg #[.int .i64 0,.nilFunc])= .agg [.int .i64 (width s:Nat),jY s].toArray∧(dO s).isSome=decide (width s≠0):=by
 rcases pO s with h | ⟨wd,f,h,hw,h0⟩
 · have h0:=tK h
   unfold jY
   rw [h,h0]; exact ⟨rfl,rfl⟩
 · unfold jY
   rw [h,hw,decide_eq_true h0]; exact ⟨rfl,rfl⟩
theorem Ct (s:Tx):[Value.int .i64 (width s:Nat),jY s].all Value.oneCell'=true :=by
 rcases pO s with h | ⟨wd,f,h,hw,h0⟩ <;> unfold jY <;> rw [h] <;> rfl
theorem tJ {s:Tx} (h:width s≠0):∃ v,dO s=some v∧∀ (wd:Nat) (f:Nat),v= .agg [.int .i64 (wd:Nat),.func (.func f) #[] #[]].toArray→jY s= .func (.func f) #[] #[]:=by
 rcases pO s with h1 | ⟨wd,f,h1,hw,h0⟩
 · exact absurd (tK h1) h
 · refine ⟨_,h1,fun c a he=> ?_⟩
   unfold jY
   rw [h1,he]; rfl
theorem vq {f:Value→Option Value} {seen:List Tx} (k:Tx) (hf:∀ s:Tx,(f (str s)).getD (.int .i64 0)= .int .i64 (seen.count s:Nat)) (s:Tx):(aW f (str k) (.int .i64 (seen.count k+1:Nat)) (str s)).getD (.int .i64 0)= .int .i64 ((seen++ [k]).count s:Nat):=by
 rw [List.count_append]
 by_cases h:s=k
 · subst h; rw [mx]; simp
 · rw [lB (fun h2=>h (str_inj.1 h2)),hf s,List.count_singleton,show (k==s)=false from by simpa using fun h2=>h h2.symm]; rfl
theorem bg.vp {w w':World} {B:Nat} {H:bd} {F:aB} {R:dD} {rows:List Rw} {ln:Nat} {seen seen':List Tx} {f:Value→Option Value} (h:bg w B H F R rows ln seen) (hm:Md (fun k=>k=H.ms) w w') (hf:bf w'.heap H.ms ew f) (hd:∀ s:Tx,(f (str s)).getD (.int .i64 0)= .int .i64 (seen'.count s:Nat)):bg w' B H F R rows ln seen':=by
 obtain ⟨g,hg,hg2⟩:=h.tm
 obtain ⟨f0,c,_⟩:=h.sm
 have hT:TF w [1] (fun k=>k=H.ms):=TF.eq (bW c) (by decide)
 exact ⟨hm.gR hT h.cells (by decide),h.rws.md hm (fun k hk cur z a=>hT.no (cQ a) (by decide) hk),h.rt.md hm (fun k hk cur z a=>hT.no (cQ a) (by decide) hk),⟨f,hf,hd⟩,⟨g,hg.md hm (fun h2=>h.ne.1 h2.symm),hg2⟩,ca h.on hm hT (by decide),h.lo,h.ne⟩
theorem bz.ms {w w':World} {B:Nat} {H:bd} {F a:aB} {V:cR} {R:dD} {rows:List Rw} {ln:Nat} {seen:List Tx} (h:bz w B H.fb H.mc a V) (c:bg w B H F R rows ln seen) (hm:Md (fun k=>k=H.ms) w w'):bz w' B H.fb H.mc a V:=by
 obtain ⟨g,hg,_⟩:=c.sm
 exact h.md (L:= [1]) hm (TF.eq (bW hg) (by decide)) (by decide) (fun h=>c.ne.2.1 h.symm)
theorem cH.ms {w w':World} {B:Nat} {H:bd} {F:aB} {R:dD} {rows:List Rw} {ln:Nat} {seen:List Tx} (a:bg w B H F R rows ln seen) (hm:Md (fun k=>k=H.ms) w w'):cH B H w w':=hm.mono fun k _ hk=>⟨hk ▸ a.lo.2.1,.inl hk⟩
structure ji (w0 w:World) (H:bd) (b2 b3 bt:Nat):Prop where
 c2:w.heap[b2]? =some (.cells [.pointer none].toArray 22 (0,0))
 c3:w.heap[b3]? =some (.cells [.int .i64 0,.int .i64 0,.int .i64 0].toArray 25 (0,0))
 lo:w0.heap.size≤b2∧w0.heap.size≤b3∧b2≠b3
 tb:∃ f,bf w.heap bt ew f∧∀ s,f (str s)=dO s
 ne:bt≠H.ms∧bt≠H.mt∧bt≠H.mc
 wk:Wk w0 w
theorem ji.md {i w w':World} {H:bd} {a c bt:Nat} (h:ji i w H a c bt) (hm:Wk w w'):ji i w' H a c bt:=by
 obtain ⟨f,hf,j⟩:=h.tb
 exact ⟨Wk.au hm h.c2,Wk.au hm h.c3,h.lo,⟨f,hf.wk hm,j⟩,h.ne,h.wk.trans hm⟩
theorem ji.mw {a w w':World} {H:bd} {c i bt:Nat} {F:aB} {R:dD} {V:cR} {rows:List Rw} {ln:Nat} {seen:List Tx} (h:ji a w H c i bt) (p:bz w a.heap.size H.fb H.mc F V) (j:bg w a.heap.size H F R rows ln seen) (hm:cH a.heap.size H w w'):ji a w' H c i bt:=by
 obtain ⟨f,hf,q⟩:=h.tb
 obtain ⟨f1,hf1,_⟩:=j.sm
 obtain ⟨f2,s,_⟩:=j.tm
 obtain ⟨f3,A,_⟩:=p.cm
 have hn:=fun e (hl:([94,91,165,56,159,157,5]:List Nat).contains (e+2)=false)=>Wr.ne (B:=a.heap.size) (bW hf1) (bW s) (bW A) hl
 refine ⟨hm.au h.c2 (fun hk=>hn 22 (by decide) _ hk _ _ h.c2),hm.au h.c3 (fun hk=>hn 25 (by decide) _ hk _ _ h.c3),h.lo,⟨f,hf.md hm ?_,q⟩,h.ne,hm.wk h.wk (Nat.le_refl _)⟩
 rintro ⟨_,h1 | h1 | h1 | h1⟩
 · exact h.ne.1 h1
 · exact h.ne.2.1 h1
 · exact h.ne.2.2 h1
 · rw [bW hf] at h1; exact absurd h1 (by decide)
def wP (w':World) (B:Nat) (F:aB) (v:Value):Prop := ∃ fb mc V,v= .tuple #[.pointer (some ⟨fb,0,none⟩),.agg [.int .i64 0,.int .i64 0,.int .i64 0].toArray]∧bz w' B fb mc F V∧(∃ seen,fE F [] seen)∧Nx F
def wO (e:Nat×Nat) (v:Value):Prop :=v= .tuple #[.pointer none,.agg [.int .i64 1,.int .i64 (e.1:Nat),.int .i64 (e.2:Nat)].toArray]
def jO (s:Tx) (w:World) (v:Value) (w':World):Prop :=(match eU s with | .ok F=>wP w' w.heap.size F v | .error e=>wO e v)∧Wk w w'
theorem jO.no {s:Tx} {w w':World} {l e:Nat} (h:eU s= .error (l,e)) (hm:Wk w w'):jO s w (.tuple #[.pointer none,.agg [.int .i64 1,.int .i64 (l:Nat),.int .i64 (e:Nat)].toArray]) w':=by
 unfold jO; rw [h]; exact ⟨rfl,hm⟩
theorem kG {n:Nat} {G:List Nat} {fn:Func} {σ:Nat→Value} {s:Tx} {w W:World} {H:bd} {c i bt l e:Nat} (j:fn.results= #[.cell 2 22,.cell 3 25]) (hlt:3 < n) (p:σ 2= .pointer (some ⟨c,0,none⟩)) (q:σ 3= .pointer (some ⟨i,0,none⟩)) (a:ji w W H c i bt) (A:eU s= .error (l,e)):qb ⟨n,[{target:= .fn (.func 31) #[.pointer (some ⟨c,0,none⟩),.pointer (some ⟨i,0,none⟩)],args:= #[]}],G,none⟩ (jM Tryz.prog fn (jO s w)) (.panic (eu 25 l (e:Nat))) σ W:=
 EO j hlt p q ⟨_,a.c2⟩ ⟨_,rfl,a.c3⟩ a.lo.2.2 (fun w' hm=>jO.no A (a.wk.trans' hm (fun k hk h=>by rcases h with rfl | rfl; have :=a.lo.1; omega; have :=a.lo.2.1; omega)))
theorem Al {x:Nat} (h:x≠0):cJ fk x=false :=by
 unfold cJ fk du
 simp [h]
theorem Wk.dr {w:World} :Wk w w.drew:=(Md.refl _ _).drew
theorem kh (s:Tx) (w:World) (hs:s.length≤1048576):
 aK Tryz.prog 10 (List.toArray [str s]) w (jO s w):=by
 refine AT [2,3] Tryz.func10 rfl Tryz.ntmps10 rfl ?_
 refine dR ?_
 refine ez ?_
 refine rg rfl (e (fP GI fun ap d1 hb2 bS hB2=>e (fP eZ fun aq w3 dD a2 cj=> ?_)))
 have hz2:=bS.size
 have hz3:=a2.size
 have cr:Wk w w3:=bS.md.trans a2.md
 have hp2:=Wk.au a2.md hB2
 refine nl (dX ?_)
 refine dR ?_
 refine ez ?_
 refine rg rfl (p (ao (str s) rfl) (e (cl rT (vj s _ hs) rfl fun dU w15 cE=> ?_)))
 obtain ⟨⟨dt,rfl,hcs⟩,hE15⟩:=cE
 have hE15x:=cr.trans hE15
 have hq2:=Wk.au hE15 hp2
 have hq3:=Wk.au hE15 cj
 have hz15:=hE15.size
 refine p mv (p (xt rfl rfl) (p (xt rfl rfl) (p ak (p ak (nl (dX ?_))))))
 refine dR ?_
 refine dR ?_
 refine ez ?_
 refine rg rfl (p mv (p (dF rfl rfl) (nl (dX ?_))))
 refine ez ?_
 refine cd rfl (fun bc=> ?_) (fun bc=> ?_)
 have bX:65536 < s.length:=Classical.byContradiction fun h=>bc (by rw [if_neg h])
 refine sq (fun b4 aW=>rg rfl (p mv (p (bZ (ps:= [(0,.int .i64 1),(2,.int .i64 (if 65536 < s.length then 10 else 0))]) (L:= [.int .i64 1,.int .i64 0,.int .i64 (if 65536 < s.length then 10 else 0)]) kJ rfl (rfl)) (e (cV o8 rfl rfl (v:= .pointer none) rfl hq2 (by decide) fun w5 bQ co=>e (fY dz rfl rfl rfl rfl (bQ.au hq3 (fun h=>by omega)) (by decide) fun w6 bR hB6=>nl (tn (aW _ _ ?_))))))))
 refine rt (qq ?_)
 exact A9 (n0 rfl (gZ (qt rfl rfl ((aM (bR.au co (fun h=>by omega))).trans rfl))) (gZ (cW rfl rfl rfl (fun j dM=>by rw [Nat.zero_add,aM hB6,if_pos bX]; simp)))) (jO.no (xi bX) ((hE15x.trans' bQ (fun k hk h=>by omega)).trans' bR (fun k hk h=>by omega)))
 have ac:¬65536 < s.length:=fun h=>bc (by rw [if_pos h]; decide)
 rw [if_neg ac] at hcs
 obtain ⟨vs,b2,cZ⟩:=hcs
 obtain ⟨aO,aP,rfl⟩:=db b2
 refine az (dX ?_)
 refine dR ?_
 refine ez ?_
 refine rg rfl (p (ao (str s) rfl) (e (cl rU (vC s _ hs) rfl fun dV b3 cF=> ?_)))
 obtain ⟨⟨du,rfl,b0⟩,hE24⟩:=cF
 rw [if_neg ac] at b0
 obtain ⟨dO,dv,rfl⟩:=db b0
 have hE24x:=hE15x.trans hE24
 have hll:=iS s
 have hz24:=hE24.size
 refine p mv (p (xt rfl rfl) (p (xt rfl rfl) (p ak (p ak (nl (dX ?_))))))
 refine dR ?_
 refine ez ?_
 refine rg rfl (e (mj fun J d2 dA bT ch=> ?_))
 have hz27:=bT.size
 refine p (bZ (ps:= [(1,.map (some J))]) (L:= [.int .i64 0,.string ⟨⟨[]⟩⟩,.string ⟨⟨[]⟩⟩,.int .u16 0,.int .u16 0,.int .u16 0,.int .u16 0,.int .u16 0,.int .i64 0,.slice none 0 0,.slice none 0 0,.slice none 0 0,.slice none 0 0,.map (some J)]) FP rfl (rfl)) (e (oK rfl fun G w29 dB a1 ci=> ?_))
 have hz29:=a1.size
 refine p mv (p mv (p (bm dI rfl rfl) (p (a8 (((aR s).length+1:Nat):Int) rfl rfl (aH (by omega) (by omega))) (e (mj fun O d3 dG aQ ck=> ?_)))))
 have hz34:=aQ.size
 refine e (mj fun U w35 dH aC cn=> ?_)
 have hz35:=aC.size
 refine p (bZ (ps:= [(0,.pointer (some ⟨G,0,none⟩)),(1,.slice aO (cg s).length aP),(3,.int .i64 ((aR s).length+1:Nat)),(4,.map (some O)),(5,.map (some U))]) (L:= [.pointer (some ⟨G,0,none⟩),.slice aO (cg s).length aP,.int .i64 0,.int .i64 ((aR s).length+1:Nat),.map (some O),.map (some U),.slice none 0 0]) FQ rfl (rfl)) (e (oK rfl fun A w37 dJ ax aV=> ?_))
 have hz37:=ax.size
 have hf37:=Wk.au (aQ.md.trans (aC.md.trans ax.md)) ci
 refine p ak (nl (dX ?_))
 refine dR ?_
 refine ez ?_
 have aa:(fun w'=>Md (fun k=>k=G) w37 w') w37.drew:=(Md.refl _ _).drew
 refine bF (fun w'=>Md (fun k=>k=G) w37 w') rfl wide aa (hp 0 rfl (by kernel_rfl) (fun _ _=>mv) aa (hp 1 rfl (by kernel_rfl) (fun _ _=>nc rfl) aa (hp 2 rfl (by kernel_rfl) (fun _ _=>fa dE rfl) aa (hp 3 rfl (by kernel_rfl) (fun w' I=>ld dq rfl (Md.aw I ((aM aV).trans rfl) (fun h=>by omega))) aa (hp 4 rfl (by kernel_rfl) (fun _ _=>mv) aa (hp 5 rfl (by kernel_rfl) (fun _ _=>nc rfl) aa (hp 6 rfl (by kernel_rfl) (fun _ _=>fa dE rfl) aa ?_)))))))
 refine hp 7 rfl (by kernel_rfl) (fun w' I=>ld dq rfl (Md.aw I ((aM aV).trans rfl) (fun h=>by omega))) aa (hp 8 rfl (by kernel_rfl) (fun _ _=>nc rfl) aa (hp 9 rfl (by kernel_rfl) (fun _ _=>fa dw rfl) aa (hp 10 rfl (by kernel_rfl) (fun _ _=>fa lh rfl) aa (he 11 rfl (by kernel_rfl) (cV iL rfl rfl (v:= .int .i64 (1:Nat)) rfl hf37 (by show 0 +0 +0 < 14; decide) fun w8 cB cp=> ?_)))))
 have aD:(fun w'=>Md (fun k=>k=G) w37 w') w8:=aa.trans' cB (fun _ _ h=>h)
 refine ⟨aD,?_⟩
 refine hp 12 rfl (by kernel_rfl) (fun _ _=>nc rfl) aD (hp 13 rfl (by kernel_rfl) (fun _ _=>fa dw rfl) aD (hp 14 rfl (by kernel_rfl) (fun _ _=>fa pH rfl) aD (he 15 rfl (by kernel_rfl) (cV iL rfl rfl (v:= .int .i64 (3:Nat)) rfl cp (by show _ < 14; decide) fun w9 hM9 cq=> ?_))))
 have bb:(fun w'=>Md (fun k=>k=G) w37 w') w9:=aD.trans' hM9 (fun _ _ h=>h)
 refine ⟨bb,?_⟩
 refine hn (by kernel_rfl) (dX ?_)
 refine dR ?_
 refine At De #[.pointer (some ⟨ap,0,none⟩),.pointer (some ⟨aq,0,none⟩)] rfl (by decide) ?_
 refine dR ?_
 refine ez ?_
 refine rg rfl (e (cl yC (Cr _) rfl fun dW w53 cG=> ?_))
 obtain ⟨bt,rfl,dL,dc,bG⟩:=cG
 have cs:Wk b3 w37:=bT.md.trans (a1.md.trans (aQ.md.trans (aC.md.trans ax.md)))
 have av:Md (fun k=>k=G) w37 w53:=bb.trans' bG (fun _ _ h=>h.elim)
 have aA:Wk b3 w53:=Md.trans' cs av (fun k hk h=>by omega)
 have hsz53:=av.size
 have hE53x:=hE24x.trans aA
 have cM:w53.heap[G]? =some (.cells (iO fk ⟨.slice none 0 0,.slice none 0 0,.slice none 0 0,.slice none 0 0,[],[]⟩ J).toArray 89 (0,0)):=Wk.au bG cq
 have hcr:w53.heap[A]? =some (.cells (mz (⟨A,G,O,U,J,(aR s).length+1⟩:bd) ⟨.slice aO (cg s).length aP,vs,.slice none 0 0⟩ 0).toArray 92 (0,0)):=av.au aV (fun h=>by omega)
 have cR:bf w53.heap J (jv .u16) (fun _=>none):=bf.md (bf.wk (bf.nil ch) (a1.md.trans (aQ.md.trans (aC.md.trans ax.md)))) av (fun h=>by omega)
 have cS:bf w53.heap O ew (fun _=>none):=bf.md (bf.wk (bf.nil ck) (aC.md.trans ax.md)) av (fun h=>by omega)
 have cT:bf w53.heap U (jv .u16) (fun _=>none):=bf.md (bf.wk (bf.nil cn) ax.md) av (fun h=>by omega)
 have ct:bz w53 w.heap.size G J fk ⟨.slice none 0 0,.slice none 0 0,.slice none 0 0,.slice none 0 0,[],[]⟩:=⟨cM,World.ownsRow_nil _ _ _ _,World.ownsRow_nil _ _ _ _,bO.nil _ _ _,World.ownsRow_nil _ _ _ _,World.ownsRow_nil _ _ _ _,bO.nil _ _ _,⟨_,cR,fun _=>rfl⟩,⟨by omega,by omega⟩,rfl⟩
 have hR0:bg w53 w.heap.size (⟨A,G,O,U,J,(aR s).length+1⟩:bd) fk ⟨.slice aO (cg s).length aP,vs,.slice none 0 0⟩ (cg s) 0 []:=⟨hcr,(((Tg.fU b2).mono (by omega)).wk (hE24.trans aA)).F2,(cZ.mono (by omega)).wk (hE24.trans aA),⟨_,cS,fun _=>rfl⟩,⟨_,cT,fun x bw=>by rw [Al bw]; rfl⟩,World.ownsRow_nil _ _ _ _,⟨by show w.heap.size≤A; omega,by show w.heap.size≤O; omega,by show w.heap.size≤U; omega⟩,⟨by show O≠U; omega,by show O≠J; omega,by show U≠J; omega⟩⟩
 have hrl:=vf s
 have cL:St w53 w.heap.size (⟨A,G,O,U,J,(aR s).length+1⟩:bd) fk (cg s) 0 []:=⟨_,_,ct,hR0,⟨by show 0 +0 +0 +0 +(cg s).length≤70000; omega,by show 0 +(cg s).length≤70000; omega,fun q br=>by have h:=vg br; exact ⟨h.2.2.1,by omega,fun x bw=>by have :=(h.2.2.2.2 x bw).2; omega⟩,.inl rfl,fun l hl=>by cases hl⟩⟩
 have da:fj fk []:=fun k hk _=>by have h:∀ k∈dC,fk.sp.getD (dC.idxOf k) 0=0:=by decide
                                  exact h k hk
 have cU:Nx fk:=⟨fun l hl=>(by cases hl),fun l hl=>(by cases hl)⟩
 have hsz9:=bb.size
 have cY:ji w w53 (⟨A,G,O,U,J,(aR s).length+1⟩:bd) ap aq bt:=⟨Wk.au (hE24.trans aA) hq2,Wk.au (hE24.trans aA) hq3,⟨by omega,by omega,by omega⟩,dc,⟨by show bt≠O; omega,by show bt≠U; omega,by show bt≠J; omega⟩,hE53x⟩
 refine p ak (nl (dX ?_))
 refine dR ?_
 refine ez ?_
 refine au (lp (fun bE aN wI=> ∃ (k:Nat) (F:aB) (rows:List Rw) (ln:Nat) (seen:List Tx),(fw (⟨A,G,O,U,J,(aR s).length+1⟩:bd).eof k F seen rows=fw ((aR s).length+1) (cg s).length fk [] (cg s))∧(rows.length≤k)∧(St wI w.heap.size (⟨A,G,O,U,J,(aR s).length+1⟩:bd) F rows ln seen)∧(fj F seen)∧(Nx F)∧(ji w wI (⟨A,G,O,U,J,(aR s).length+1⟩:bd) ap aq bt)∧(aN 2= .pointer (some ⟨ap,0,none⟩))∧(aN 3= .pointer (some ⟨aq,0,none⟩))∧(aN 8= .pointer (some ⟨A,0,none⟩))∧(aN 9= .map (some bt))∧(rows.length=bE)) _ ⟨(cg s).length,fk,cg s,0,[],rfl,(Nat.le_refl _),cL,da,cU,cY,rfl,rfl,rfl,rfl,rfl⟩ ?_)
 rintro bE aN wI ⟨k,F,rows,ln,seen,hX,hk,I,aS,hnx,bp,c0,c1,c6,c7,rfl⟩
 refine fx 2 c0 (fx 3 c1 (fx 8 c6 (fx 9 c7 ?_)))
 obtain ⟨V,R,M,ag,ar⟩:=I
 obtain ⟨vr,vs,vn⟩:=R
 obtain ⟨bC,cr1,hv⟩:=ag.rws.slice
 obtain rfl :vr= .slice bC rows.length cr1:=hv
 refine sq (fun b4 aW=>sq (fun dj cu=>rg rfl (p (ao (.pointer (some ⟨A,0,none⟩)) rfl) (p (nc rfl) (p (fa l8 rfl) (p (ld kT rfl ((aM ag.cells).trans rfl)) (p (bm oq rfl rfl) ?_)))))))
 refine p (gt rfl rfl) (nl (tn (cu _ _ (cd rfl (fun bh=> ?_) (fun bh=> ?_)))))
 obtain ⟨⟨n,r⟩,rest,rfl⟩:∃ q rest,rows=q::rest:=by
  cases rows with
  | nil=>exact absurd bh (by simp)
  | cons q rest=>exact ⟨q,rest,rfl⟩
 have hrow:=ar.row (n,r) (List.mem_cons_self ..)
 have hbl:=ar.len
 have hbs:=ar.sl
 simp only [List.length_cons] at hbl hbs hk
 refine az (tn (aW _ _ (au (sq (fun dk cv=>rg rfl (p (ao (.pointer (some ⟨A,0,none⟩)) rfl) (e (cl iF (vI w.heap.size (⟨A,G,O,U,J,(aR s).length+1⟩:bd) F ⟨.slice bC (rest.length+1) cr1,vs,vn⟩ n r rest ln seen wI ag) rfl fun dY dh cI=> ?_))))))))
 obtain ⟨⟨R1,hR1⟩,hT1,hM1⟩:=cI
 obtain ⟨bA,bD,rfl⟩:=hT1.slice
 have hF1:=M.rb ag hM1
 have hob1:=bp.mw M ag (cH.rb ag hM1)
 have dN:0 < r.length:=List.length_pos_iff.2 hrow.1
 have hB1:=fE.k6 ar
 have hval:=Cp (r.getD 0 [])
 obtain ⟨dy,cP,b1⟩:=hob1.tb
 refine p ak (nl (tn (cv _ _ (sq (fun dl cx=>rg rfl (p (ao (.map (some bt)) rfl) (p mv (p (aG bU rfl rfl (by omega) (aj.ok (hT1.bL.2) (bN (by omega)))) ?_))))))))
 refine p (ld bY rfl (bB.get (i:=0) hT1.bL.2 (by omega))) (p (ur gq GW ef (cP) rfl rfl (⟨_,rfl⟩) ((congrArg (fun o=>Option.getD o _) (b1 (r.getD 0 []))).trans hval.1) ((congrArg Option.isSome (b1 (r.getD 0 []))).trans hval.2)) (p mv (p (xt rfl rfl) (p (xt rfl rfl) (e (fP GP fun b8 w11 hb11 cC cb=>e (fY Ag rfl rfl rfl (Ct _) cb (by decide) fun w12 cA cc=> ?_)))))))
 have hE12:Wk dh w12:=cC.md.trans' cA (fun k hk h=>by omega)
 have hb12:w12.heap[b8]? =some (.cells [.int .i64 (width (r.getD 0 []):Nat),jY (r.getD 0 [])].toArray 99 (0,0)):=cc
 have hF2:=hF1.wk hE12
 have hR2:=hR1.wk hE12
 have hT2:=hT1.wk hE12
 have hob2:=hob1.md hE12
 refine p ak (nl (tn (cx _ _ (sq (fun dm cy=>rg rfl (p (ao (.pointer (some ⟨A,0,none⟩)) rfl) (p mv ?_)))))))
 refine eP rfl (bq dK (dP A n _ 110 w12 hR2.cw (by decide)) rfl fun dZ di cJ=> ?_) (fun c w' Z ay M=>by
  obtain ⟨rfl,hb,rfl⟩:=Z
  exact kG rfl (by decide) ((M 2 (.head _)).trans rfl) ((M 3 (.tail _ (.head _))).trans rfl) hob2 (kR ac (EL hX hk (Classical.not_not.1 (of_decide_eq_false hb)))))
 obtain ⟨rfl,ab,rfl⟩:=cJ
 have ab:width (r.getD 0 [])≠0:=of_decide_eq_true ab
 refine nl (tn (cy _ _ (sq (fun dn cz=>rg rfl (p (ao (.pointer (some ⟨A,0,none⟩)) rfl) (p mv (p (bm dI rfl rfl) (p (fa tu rfl) ?_))))))))
 refine p (ld cX rfl ((aM hb12).trans rfl)) (p (ba rfl rfl) ?_)
 refine eP rfl (bq dK (dP A n _ 111 di hR2.cw (by decide)) rfl fun d0 ah cK=> ?_) (fun c w' Z ay M=>by
  obtain ⟨rfl,hb,rfl⟩:=Z
  exact kG rfl (by decide) ((M 2 (.head _)).trans rfl) ((M 3 (.tail _ (.head _))).trans rfl) hob2 (kR ac (EM hX hk ab (fun h=>of_decide_eq_false hb (by rw [h])))))
 obtain ⟨rfl,ad,rfl⟩:=cK
 have ad:r.length=width (r.getD 0 []):=by have :=of_decide_eq_true ad; omega
 refine nl (tn (cz _ _ (sq (fun dp bI=> ?_))))
 obtain ⟨dS,c8,c9⟩:=hR2.sm
 have C:(fun w'=>Wk ah w') ah.drew:=(Md.refl _ _).drew
 refine bF (fun w'=>Wk ah w') rfl wide C (hp 0 rfl (by kernel_rfl) (fun _ _=>ao (.pointer (some ⟨A,0,none⟩)) rfl) C (hp 1 rfl (by kernel_rfl) (fun _ _=>fa tu rfl) C (hp 2 rfl (by kernel_rfl) (fun w' I=>ld cX rfl (Wk.aw I ((aM hb12).trans rfl))) C (hp 3 rfl (by kernel_rfl) (fun _ _=>ba rfl rfl) C (hp 4 rfl (by kernel_rfl) (fun _ _=>mv) C (hZ (t:=84) rfl (fun aI=> ?_) (fun aI=> ?_)))))))
 refine aT 5 rfl (by kernel_rfl) rfl rfl rfl rfl C ?_
 refine aT 6 rfl (by kernel_rfl) rfl rfl rfl rfl C ?_
 refine aT 7 rfl (by kernel_rfl) rfl rfl rfl rfl C ?_
 refine aT 8 rfl (by kernel_rfl) rfl rfl rfl rfl C ?_
 refine aT 9 rfl (by kernel_rfl) rfl rfl rfl rfl C ?_
 refine aT 10 rfl (by kernel_rfl) rfl rfl rfl rfl C ?_
 refine aT 11 rfl (by kernel_rfl) rfl rfl rfl rfl C ?_
 refine aT 12 rfl (by kernel_rfl) rfl rfl rfl rfl C ?_
 refine aT 13 rfl (by kernel_rfl) rfl rfl rfl rfl C ?_
 refine hp 14 rfl (by kernel_rfl) (fun _ _=>bl rfl) C ?_
 refine ll 15 rfl (by kernel_rfl) rfl (bq dK (dP A n _ 112 ah.drew (Wk.aw C hR2.cw) (by decide)) rfl fun dg w95 a6=> ?_) (fun c w' Z ay M=>by
  obtain ⟨rfl,hb,rfl⟩:=Z
  first
   | exact absurd hb (by decide)
   | exact kG rfl (by decide) ((M 2 (.head _)).trans rfl) ((M 3 (.tail _ (.head _))).trans rfl) (hob2.md Wk.dr) (kR ac (u7 hX hk ab ad (fun h=>aI (by rw [h]; rfl)) (Classical.not_not.1 fun h=>of_decide_eq_false hb (by rw [List.count_eq_zero.2 h]; rfl)))))
 obtain ⟨rfl,bx,aJ⟩:=a6
 have ai:width (r.getD 0 [])=2→r.getD 0 []∉seen:=by
  first
   | exact fun h=>absurd aI (by omega)
   | exact fun _=>List.count_eq_zero.1 (by have :=of_decide_eq_true bx; omega)
 have hE95:Wk ah w95:=by rw [aJ]; exact Wk.dr
 obtain ⟨dd,bo,bk⟩:=tJ ab
 obtain ⟨b9,bv,bi,bj⟩:=tO w.heap.size (⟨A,G,O,U,J,(aR s).length+1⟩:bd) F rest n seen r w.heap.size bA bD w95 ⟨_,_,hF2.wk hE95,hR2.wk hE95,hB1⟩ (hT2.wk hE95) hrow.2.2 ad aS ai (by omega) bo
 have hfv:=bk _ _ bv
 have a9:(fun w'=>Wk ah w') w95:=by rw [aJ]; exact C
 refine ⟨a9,?_⟩
 refine hn (by kernel_rfl) (tn (bI _ _ (sq (fun b5 aY=>rg rfl (p (fa tv rfl) (p (ld q8 rfl ((aM (Wk.au hE95 hb12)).trans (congrArg some hfv))) (p (ao (.pointer (some ⟨A,0,none⟩)) rfl) (p mv ?_))))))))
 refine eP rfl (wi bi rfl bj rfl fun df an a4=> ?_) (fun c w' Z ay M=>by
  obtain ⟨l,e,Y,rfl,hMw3⟩:=Z
  exact kG rfl (by decide) ((M 2 (.head _)).trans rfl) ((M 3 (.tail _ (.head _))).trans rfl) ((hob2.md hE95).mw (hF2.wk hE95) (hR2.wk hE95) hMw3) (kR ac (vb hX hk ab ad ai Y)))
 obtain ⟨rfl,F',am,ln',Y,⟨b6,aU,hF3,hR3,ae⟩,hMw3⟩:=a4
 have hob3:=(hob2.md hE95).mw (hF2.wk hE95) (hR2.wk hE95) hMw3
 obtain ⟨q1,hq1,_⟩:=hR2.sm
 obtain ⟨q2,bs,_⟩:=hR2.tm
 obtain ⟨de,bu,_⟩:=hF2.cm
 have hT3:=(hT2.wk hE95).md hMw3 (Wr.ne (bW (hq1.wk hE95)) (bW (bs.wk hE95)) (bW (bu.wk hE95)) (by decide))
 obtain ⟨ca,aE,aF⟩:=hR3.sm
 have hcl:=List.count_le_length (a:=r.getD 0 []) (l:=seen)
 have hXn:=vc hX hk ab ad ai Y
 refine nl (tn (aY _ _ ?_))
 have E:(fun w'=>Wk an w') an.drew:=(Md.refl _ _).drew
 refine c5 (fun w'=>Wk an w') 9 rfl wide E (lq 0 rfl (by kernel_rfl) (fun _ _=>ao (.pointer (some ⟨A,0,none⟩)) rfl) E (lq 1 rfl (by kernel_rfl) (fun _ _=>nc rfl) E (lq 2 rfl (by kernel_rfl) (fun _ _=>fa lk rfl) E (lq 3 rfl (by kernel_rfl) (fun w' I=>ld kU rfl (Wk.aw I ((aM hR3.cells).trans rfl))) E (lq 4 rfl (by kernel_rfl) (fun _ _=>mv) E (lq 5 rfl (by kernel_rfl) (fun _ _=>aG bU rfl rfl (by omega) (aj.ok (aj.wk hT3.bL.2 E) (bN (by omega)))) E (lq 6 rfl (by kernel_rfl) (fun w' I=>ld bY rfl (Wk.aw I (bB.get (i:=0) hT3.bL.2 (by omega)))) E ?_)))))))
 refine lq 7 rfl (by kernel_rfl) (fun w' I=>iT j7 jf ef (bf.md (aE) I id) rfl rfl (⟨_,rfl⟩) (aF (r.getD 0 []))) E (lq 8 rfl (by kernel_rfl) (fun _ _=>a8 ((seen.count (r.getD 0 [])+1:Nat):Int) rfl rfl (aH (by omega) (by omega))) E (bJ 9 rfl (by kernel_rfl) (by kernel_rfl) (lI j7 ef (aE.wk E) rfl rfl rfl (⟨_,rfl⟩) fun aL aZ a3=> ?_)))
 have hM16:=eS aZ
 have a5:bg aL w.heap.size (⟨A,G,O,U,J,(aR s).length+1⟩:bd) F' aU am ln' (seen++ [r.getD 0 []]):=bg.vp hR3 hM16 a3 (vq _ aF)
 have hF16:=bz.ms hF3 hR3 hM16
 have hob16:=hob3.mw hF3 hR3 (cH.ms hR3 hM16)
 have hrw:=ma Y
 have E:St aL w.heap.size (⟨A,G,O,U,J,(aR s).length+1⟩:bd) F' am ln' (seen++ [r.getD 0 []]):=⟨_,_,hF16,a5,⟨ae.len,by rw [List.length_append,List.length_singleton]; omega,ae.row,ae.kd,ae.al⟩⟩
 have hsp16:=tM aS Y
 have hnx16:=tL hnx Y
 refine c4 (by kernel_rfl) ?_
 exact bn (tn (⟨_,by simp only [List.length_cons]; have :=ma Y; omega,k - 1,F',am,ln',seen++ [r.getD 0 []],hXn.1,hXn.2,E,hsp16,hnx16,hob16,rfl,rfl,rfl,rfl,rfl⟩))
 refine aX 5 rfl (by kernel_rfl) rfl rfl rfl (fun _ _=>ao (.pointer (some ⟨A,0,none⟩)) rfl) C (aX 6 rfl (by kernel_rfl) rfl rfl rfl (fun _ _=>nc rfl) C (aX 7 rfl (by kernel_rfl) rfl rfl rfl (fun _ _=>fa lk rfl) C (aX 8 rfl (by kernel_rfl) rfl rfl rfl (fun w' I=>ld kU rfl (Wk.aw I ((aM hR2.cells).trans rfl))) C (aX 9 rfl (by kernel_rfl) rfl rfl rfl (fun _ _=>mv) C (aX 10 rfl (by kernel_rfl) rfl rfl rfl (fun _ _=>aG bU rfl rfl (by omega) (aj.ok (aj.wk hT2.bL.2 C) (bN (by omega)))) C (aX 11 rfl (by kernel_rfl) rfl rfl rfl (fun w' I=>ld bY rfl (Wk.aw I (bB.get (i:=0) hT2.bL.2 (by omega)))) C (aX 12 rfl (by kernel_rfl) rfl rfl rfl (fun w' I=>iT j7 jf ef (bf.md (c8) I id) rfl rfl (⟨_,rfl⟩) (c9 (r.getD 0 []))) C ?_)))))))
 refine aX 13 rfl (by kernel_rfl) rfl rfl rfl (fun _ _=>ba rfl rfl) C (hp 14 rfl (by kernel_rfl) (fun _ _=>a7 rfl) C ?_)
 refine ll 15 rfl (by kernel_rfl) rfl (bq dK (dP A n _ 112 ah.drew (Wk.aw C hR2.cw) (by decide)) rfl fun dg w95 a6=> ?_) (fun c w' Z ay M=>by
  obtain ⟨rfl,hb,rfl⟩:=Z
  first
   | exact absurd hb (by decide)
   | exact kG rfl (by decide) ((M 2 (.head _)).trans rfl) ((M 3 (.tail _ (.head _))).trans rfl) (hob2.md Wk.dr) (kR ac (u7 hX hk ab ad (fun h=>aI (by rw [h]; rfl)) (Classical.not_not.1 fun h=>of_decide_eq_false hb (by rw [List.count_eq_zero.2 h]; rfl)))))
 obtain ⟨rfl,bx,aJ⟩:=a6
 have ai:width (r.getD 0 [])=2→r.getD 0 []∉seen:=by
  first
   | exact fun h=>absurd aI (by omega)
   | exact fun _=>List.count_eq_zero.1 (by have :=of_decide_eq_true bx; omega)
 have hE95:Wk ah w95:=by rw [aJ]; exact Wk.dr
 obtain ⟨dd,bo,bk⟩:=tJ ab
 obtain ⟨b9,bv,bi,bj⟩:=tO w.heap.size (⟨A,G,O,U,J,(aR s).length+1⟩:bd) F rest n seen r w.heap.size bA bD w95 ⟨_,_,hF2.wk hE95,hR2.wk hE95,hB1⟩ (hT2.wk hE95) hrow.2.2 ad aS ai (by omega) bo
 have hfv:=bk _ _ bv
 have a9:(fun w'=>Wk ah w') w95:=by rw [aJ]; exact C
 refine ⟨a9,?_⟩
 refine hn (by kernel_rfl) (tn (bI _ _ (sq (fun b5 aY=>rg rfl (p (fa tv rfl) (p (ld q8 rfl ((aM (Wk.au hE95 hb12)).trans (congrArg some hfv))) (p (ao (.pointer (some ⟨A,0,none⟩)) rfl) (p mv ?_))))))))
 refine eP rfl (wi bi rfl bj rfl fun df an a4=> ?_) (fun c w' Z ay M=>by
  obtain ⟨l,e,Y,rfl,hMw3⟩:=Z
  exact kG rfl (by decide) ((M 2 (.head _)).trans rfl) ((M 3 (.tail _ (.head _))).trans rfl) ((hob2.md hE95).mw (hF2.wk hE95) (hR2.wk hE95) hMw3) (kR ac (vb hX hk ab ad ai Y)))
 obtain ⟨rfl,F',am,ln',Y,⟨b6,aU,hF3,hR3,ae⟩,hMw3⟩:=a4
 have hob3:=(hob2.md hE95).mw (hF2.wk hE95) (hR2.wk hE95) hMw3
 obtain ⟨q1,hq1,_⟩:=hR2.sm
 obtain ⟨q2,bs,_⟩:=hR2.tm
 obtain ⟨de,bu,_⟩:=hF2.cm
 have hT3:=(hT2.wk hE95).md hMw3 (Wr.ne (bW (hq1.wk hE95)) (bW (bs.wk hE95)) (bW (bu.wk hE95)) (by decide))
 obtain ⟨ca,aE,aF⟩:=hR3.sm
 have hcl:=List.count_le_length (a:=r.getD 0 []) (l:=seen)
 have hXn:=vc hX hk ab ad ai Y
 refine nl (tn (aY _ _ ?_))
 have E:(fun w'=>Wk an w') an.drew:=(Md.refl _ _).drew
 refine c5 (fun w'=>Wk an w') 9 rfl wide E (lq 0 rfl (by kernel_rfl) (fun _ _=>ao (.pointer (some ⟨A,0,none⟩)) rfl) E (lq 1 rfl (by kernel_rfl) (fun _ _=>nc rfl) E (lq 2 rfl (by kernel_rfl) (fun _ _=>fa lk rfl) E (lq 3 rfl (by kernel_rfl) (fun w' I=>ld kU rfl (Wk.aw I ((aM hR3.cells).trans rfl))) E (lq 4 rfl (by kernel_rfl) (fun _ _=>mv) E (lq 5 rfl (by kernel_rfl) (fun _ _=>aG bU rfl rfl (by omega) (aj.ok (aj.wk hT3.bL.2 E) (bN (by omega)))) E (lq 6 rfl (by kernel_rfl) (fun w' I=>ld bY rfl (Wk.aw I (bB.get (i:=0) hT3.bL.2 (by omega)))) E ?_)))))))
 refine lq 7 rfl (by kernel_rfl) (fun w' I=>iT j7 jf ef (bf.md (aE) I id) rfl rfl (⟨_,rfl⟩) (aF (r.getD 0 []))) E (lq 8 rfl (by kernel_rfl) (fun _ _=>a8 ((seen.count (r.getD 0 [])+1:Nat):Int) rfl rfl (aH (by omega) (by omega))) E (bJ 9 rfl (by kernel_rfl) (by kernel_rfl) (lI j7 ef (aE.wk E) rfl rfl rfl (⟨_,rfl⟩) fun aL aZ a3=> ?_)))
 have hM16:=eS aZ
 have a5:bg aL w.heap.size (⟨A,G,O,U,J,(aR s).length+1⟩:bd) F' aU am ln' (seen++ [r.getD 0 []]):=bg.vp hR3 hM16 a3 (vq _ aF)
 have hF16:=bz.ms hF3 hR3 hM16
 have hob16:=hob3.mw hF3 hR3 (cH.ms hR3 hM16)
 have hrw:=ma Y
 have E:St aL w.heap.size (⟨A,G,O,U,J,(aR s).length+1⟩:bd) F' am ln' (seen++ [r.getD 0 []]):=⟨_,_,hF16,a5,⟨ae.len,by rw [List.length_append,List.length_singleton]; omega,ae.row,ae.kd,ae.al⟩⟩
 have hsp16:=tM aS Y
 have hnx16:=tL hnx Y
 refine c4 (by kernel_rfl) ?_
 exact bn (tn (⟨_,by simp only [List.length_cons]; have :=ma Y; omega,k - 1,F',am,ln',seen++ [r.getD 0 []],hXn.1,hXn.2,E,hsp16,hnx16,hob16,rfl,rfl,rfl,rfl,rfl⟩))
 obtain rfl :rows= []:=by
  cases rows with
  | nil=>rfl
  | cons q rest=>exact absurd (by simp only [List.length_cons]; omega) bh
 rw [EN] at hX
 refine ext (te _ (te _ (be (dX ?_))))
 refine dR ?_
 refine ez ?_
 refine rg rfl (p (ao (.pointer (some ⟨A,0,none⟩)) rfl) ?_)
 refine eP rfl (bq yD (y7 w.heap.size (⟨A,G,O,U,J,(aR s).length+1⟩:bd) F [] ln seen wI ⟨_,_,M,ag,ar⟩ hnx.2) rfl fun dT w111 cD=> ?_) (fun c w' Z ay bH=>by
  obtain ⟨q,br,rfl,a0⟩:=Z
  exact kG rfl (by decide) ((bH 2 (.head _)).trans rfl) ((bH 3 (.tail _ (.head _))).trans rfl) (bp.mw M ag a0) (xh ac hX.symm br))
 obtain ⟨rfl,cN,⟨b7,ds,dQ,hF4,hR4⟩,a0⟩:=cD
 have hob4:=bp.mw M ag a0
 have hlo4:=hob4.lo
 refine nl (dX ?_)
 refine dR ?_
 refine ez ?_
 refine rg rfl (p (ao (.pointer (some ⟨A,0,none⟩)) rfl) (p (nc rfl) (p (fa dE rfl) (p (ld dq rfl ((aM hR4.cells).trans rfl)) (p (bZ (ps:= []) (L:= [.int .i64 0,.int .i64 0,.int .i64 0]) kJ rfl (rfl)) (e (cV o8 rfl rfl (v:= .pointer (some ⟨G,0,none⟩)) rfl hob4.c2 (by decide) fun w20 bK ce=>e (fY dz rfl rfl rfl rfl (bK.au hob4.c3 (fun h=>by omega)) (by decide) fun w21 bM cf=> ?_))))))))
 have bP:Md (fun k=>k=ap∨k=aq) w111 w21:=(bK.mono (fun _ _ h=> .inl h)).trans' bM (fun _ _ h=> .inr h)
 refine nl (dX ?_)
 refine qu ?_
 have bV:TF w111 [24,27] (fun k=>k=ap∨k=aq):=TF.or (TF.eq (cQ hob4.c2) (by decide)) (TF.eq (cQ hob4.c3) (by decide))
 obtain ⟨dx,cO,_⟩:=hF4.cm
 have hF5:=hF4.md bP bV (by decide) (bV.no (bW cO) (by decide))
 exact EP rfl (by decide) rfl rfl (bM.au ce (fun h=>by omega)) cf rfl (fun w' hm=>by
  unfold jO
  rw [xj ac hX.symm cN]
  exact ⟨⟨G,J,b7,rfl,hF5.wk hm,⟨seen,ar⟩,hnx⟩,(hob4.wk.trans' bP (fun k hk h=>by omega)).trans hm⟩)
end Go.Hb.j9
end
section
set_option maxRecDepth 20000
set_option maxHeartbeats 1000000
namespace Go.Hb.jN
open Go.Hb.cG
open Go.Proofs
open Go.Hb.eJ Go.Hb.fg Go.Hb.fz Go.Hb.g5 Go.Hb.fG
def gd (F:aB) (V:cR):List Value:= [.int .i64 (F.kind:Nat),str F.lY,str F.tr,ay (F.sp.getD 0 0),ay (F.sp.getD 1 0),ay (F.sp.getD 2 0),ay (F.sp.getD 3 0),ay (F.sp.getD 4 0),.int .i64 (F.least:Nat),V.v9,V.v10,V.v11,V.di]
structure wS (w:World) (B:Nat) (F:aB) (V:cR):Prop where
 o9:World.ownsRow w B 163 2 V.v9 F.bH.length (ic F.bH)
 eH:World.ownsRow w B 54 1 V.v10 F.aliases.length V.sa
 al:bO w B 71 V.sa F.aliases
 dY:World.ownsRow w B 157 5 V.v11 F.a5.length (gT F.a5)
 dG:World.ownsRow w B 155 7 V.di F.rules.length (eI (F.rules.zip V.rn))
 nx:bO w B 71 V.rn (F.rules.map (·.next))
theorem oH {w:World} {B e:Nat} {vs:List Value} {ls:List (List Nat)} (h:bO w B e vs ls):vs.all Value.oneCell'=true :=by
 rw [List.all_eq_true]
 intro v hv
 obtain ⟨i,hi⟩:=List.getElem?_of_mem hv
 have h1:=(List.getElem?_eq_some_iff.1 hi).1
 obtain ⟨u,hu,hT⟩:=bO.get h (i:=i) (by rw [← h.1]; exact h1)
 rw [hi] at hu; cases hu
 obtain ⟨a,c,rfl⟩:=hT.slice; rfl
theorem E9 {w:World} {B e:Nat} {rs:List eE} {vs:List Value} {ls:List (List Nat)} (h:bO w B e vs ls):(eI (rs.zip vs)).all Value.oneCell'=true :=by
 rw [List.all_eq_true]
 intro v hv
 obtain ⟨q,a,hv⟩:=List.mem_flatMap.1 hv
 have h1:=List.all_eq_true.1 (oH h) q.2 (List.of_mem_zip a).2
 simp only [fW,List.mem_cons,List.not_mem_nil,or_false] at hv
 rcases hv with rfl | rfl | rfl | rfl | rfl | rfl | rfl <;> first | rfl | exact h1
theorem Fa {rs:List eE} {vs:List Value} {i:Nat} {v:Value} (hi:i < rs.length) (hv:i < vs.length):(eI (rs.zip vs)).set (i*7 +6) v=eI (rs.zip (vs.set i v)):=by
 obtain ⟨r,hr⟩:∃ r,rs[i]? =some r:=⟨_,List.getElem?_eq_getElem hi⟩
 obtain ⟨u,hu⟩:∃ u,vs[i]? =some u:=⟨_,List.getElem?_eq_getElem hv⟩
 have hz:(rs.zip vs)[i]? =some (r,u):=List.getElem?_zip_eq_some.2 ⟨hr,hu⟩
 have hz2:rs.zip (vs.set i v)=(rs.zip vs).set i (r,v):=by
  apply List.ext_getElem?
  intro j
  rw [List.getElem?_set]
  by_cases a:i=j
  · subst a
    rw [if_pos rfl,if_pos (List.getElem?_eq_some_iff.1 hz).1]
    exact List.getElem?_zip_eq_some.2 ⟨hr,by simp [hv]⟩
  · rw [if_neg a]
    cases h1:(rs.zip vs)[j]? with
    | none=>
      rw [List.getElem?_eq_none_iff,List.length_zip] at h1 ⊢
      rw [List.length_set]; exact h1
    | some q=>
      have h2:=List.getElem?_zip_eq_some.1 h1
      exact List.getElem?_zip_eq_some.2 ⟨h2.1,by rw [List.getElem?_set,if_neg a]; exact h2.2⟩
 have hl:(rs.zip vs).length=min rs.length vs.length:=List.length_zip
 have hc:(eI (rs.zip vs)).length=(rs.zip vs).length*7:=jW (f:=fW) (m:=7) (fun _=>rfl) _
 rw [hz2,show eI ((rs.zip vs).set i (r,v))=(eI (rs.zip vs)).take (i*7)++fW (r,v)++(eI (rs.zip vs)).drop (i*7 +7) from th (f:=fW) (m:=7) (fun _=>rfl) _ (by omega)]
 apply List.ext_getElem?
 intro j
 have hf:=fun c hc=>pC (f:=fW) (m:=7) (fun _=>rfl) (c:=c) hz hc
 have hg:∀ c,c < 7→(eI (rs.zip vs))[i*7 +c]? =(fW (r,u))[c]? :=fun c h=>hf c h
 have htl:((eI (rs.zip vs)).take (i*7)).length=i*7:=by rw [List.length_take,hc]; omega
 rw [List.getElem?_set]
 by_cases h1:j < i*7
 · rw [if_neg (by omega),List.append_assoc,List.getElem?_append_left (by omega),List.getElem?_take,if_pos h1]
 · rw [List.append_assoc,List.getElem?_append_right (by omega),htl]
   by_cases h2:j < i*7 +7
   · rw [List.getElem?_append_left (by show _ < 7; omega)]
     obtain ⟨c,rfl⟩:∃ c,j=i*7 +c:=⟨j - i*7,by omega⟩
     have h3:c < 7:=by omega
     rw [hg c h3,show i*7 +c - i*7=c by omega]
     match c,h3 with
     | 0,_=>rw [if_neg (by omega)]; rfl
     | 1,_=>rw [if_neg (by omega)]; rfl
     | 2,_=>rw [if_neg (by omega)]; rfl
     | 3,_=>rw [if_neg (by omega)]; rfl
     | 4,_=>rw [if_neg (by omega)]; rfl
     | 5,_=>rw [if_neg (by omega)]; rfl
     | 6,_=>rw [if_pos rfl,if_pos (by omega)]; rfl
   · rw [if_neg (by omega),List.getElem?_append_right (by show 7≤_; omega),show (fW (r,v)).length=7 from rfl,List.getElem?_drop]
     congr 1; omega
theorem vk {l:List (eE×Value)} {i:Nat} {q:eE×Value} (h:l[i]? =some q):eI l≠[]:=fun h2=>by
 have h3:(eI l).length=l.length*7:=jW (f:=fW) (m:=7) (fun _=>rfl) _
 have h4:=(List.getElem?_eq_some_iff.1 h).1
 rw [h2] at h3
 have h5:0=l.length*7:=h3
 omega
theorem rp {F:aB} {V:cR} (h9:V.v9.oneCell'=true) (a:V.v10.oneCell'=true) (c:V.v11.oneCell'=true) (i:V.di.oneCell'=true):(gd F V).all Value.oneCell'=true :=by
 rw [List.all_eq_true]
 intro v hv
 simp only [gd,List.mem_cons,List.not_mem_nil,or_false] at hv
 rcases hv with rfl | rfl | rfl | rfl | rfl | rfl | rfl | rfl | rfl | rfl | rfl | rfl | rfl <;> first | rfl | assumption
theorem xE {w:World} {B fb mc:Nat} {F:aB} {V:cR} (h:bz w B fb mc F V):(gd F V).all Value.oneCell'=true :=rp (dx h.o9) (dx h.eH) (dx h.dY) (dx h.dG)
theorem ph {α:Type} {l m:List α} {i:Nat} (h:l.drop i=m.drop i):l[i]? =m[i]? :=by
 have h1:=congrArg (·[0]?) h
 simpa using h1
theorem qv {α:Type} {l:List α} {i:Nat} {x:α} (h:i < l.length):(l.set i x).take (i+1)=l.take i++ [x]:=by
 rw [List.take_add_one,List.take_set_of_le (Nat.le_refl i)]; simp [h]
theorem set_drop {α:Type} {l m:List α} {i:Nat} {x:α} (h:l.drop i=m.drop i):(l.set i x).drop (i+1)=m.drop (i+1):=by
 rw [List.drop_set_of_lt (Nat.lt_succ_self i),show i.succ=i+1 from rfl]
 simpa [List.drop_drop] using congrArg (List.drop 1) h
theorem ri {w:World} {B e i:Nat} {vs:List Value} {ls:List (List Nat)} {v:Value} (h:bO w B e (vs.take i) (ls.take i)) (hi:i < ls.length) (hv:i < vs.length) (hT:Tg w B e (ls.getD i []).length v ((ls.getD i []).map ay)):bO w B e ((vs.set i v).take (i+1)) (ls.take (i+1)):=by
 rw [qv hv,g3 ls i [] hi]; exact h.snoc hT
theorem zp (a:Option Addr) (n c:Nat) (xs:List Value) (w:World) (hC:aj w.heap a xs) (hxl:xs.length=n*2) (ha:a=none→n=0) (h1:xs.all Value.oneCell'=true) (hn:n≤1048576):
 aK Tryz.prog 69 (List.toArray [.slice a n c]) w (fun v' w'=>World.ownsRow w' w.heap.size 163 2 v' n xs∧Wk w w'):=by
 refine enter Tryz.func69 rfl Tryz.ntmps69 rfl ?_
 refine aa (fun _ s=>(ae (((s _ _ (sq (fun _ A=>aa (fun _ C=> ?_))))))))
 refine ab (.slice a n c) (p (k9 Ge rfl rfl) (ag ((C _ _ (cb rfl (fun q=> ?_) (fun q=> ?_))))))
 have I:a=none:=by simpa using q
 refine aa (fun _ i=>(ae (((i _ _ (rt (tr (f1 rfl rfl ?_))))))))
 have hn0:=ha I
 subst hn0
 obtain rfl :=List.eq_nil_of_length_eq_zero (show xs.length=0 by omega)
 exact ⟨World.ownsRow_nil _ _ _ _,Md.refl _ _⟩
 refine az (tn (A _ _ (aa (fun _ i=>(e (jT oc fun O w5 hb5 j E=> ?_))))))
 have ho5:=E w.heap.size (by omega)
 refine ab (.slice a n c) (e (ap oc (ho5) rfl (by have :=j.size; omega) rfl (hC.wk j.md) (hxl) (h1) (by omega) (by omega) fun M w7 J G hz7 U=> ?_))
 have hE7:=Wk.own j.md ho5 G (Nat.le_refl _)
 refine ae (((i _ _ (rt (f1 rfl rfl ?_)))))
 have hz:World.ownsRow w7 w.heap.size 163 2 M n xs:=by simpa using J
 exact ⟨hz,hE7⟩
theorem zo (v:Value) (n:Nat) (xs:List Value) (w:World) (hv:Rd w.heap v n 2 xs) (h1:xs.all Value.oneCell'=true) (hn:n≤1048576):aK Tryz.prog 69 [v].toArray w (fun v w'=>World.ownsRow w' w.heap.size 163 2 v n xs∧Wk w w'):=by
 obtain ⟨a,c,rfl,hC,hxl,ha⟩:=hv
 exact zp a n c xs w hC hxl ha h1 hn
theorem zl (a:Option Addr) (n c:Nat) (xs:List Value) (w:World) (hC:aj w.heap a xs) (hxl:xs.length=n*5) (ha:a=none→n=0) (h1:xs.all Value.oneCell'=true) (hn:n≤1048576):
 aK Tryz.prog 70 (List.toArray [.slice a n c]) w (fun v' w'=>World.ownsRow w' w.heap.size 157 5 v' n xs∧Wk w w'):=by
 refine enter Tryz.func70 rfl Tryz.ntmps70 rfl ?_
 refine aa (fun _ s=>(ae (((s _ _ (sq (fun _ A=>aa (fun _ C=> ?_))))))))
 refine ab (.slice a n c) (p (k9 vS rfl rfl) (ag ((C _ _ (cb rfl (fun q=> ?_) (fun q=> ?_))))))
 have I:a=none:=by simpa using q
 refine aa (fun _ i=>(ae (((i _ _ (rt (tr (f1 rfl rfl ?_))))))))
 have hn0:=ha I
 subst hn0
 obtain rfl :=List.eq_nil_of_length_eq_zero (show xs.length=0 by omega)
 exact ⟨World.ownsRow_nil _ _ _ _,Md.refl _ _⟩
 refine az (tn (A _ _ (aa (fun _ i=>(e (jT oe fun O w5 hb5 j E=> ?_))))))
 have ho5:=E w.heap.size (by omega)
 refine ab (.slice a n c) (e (ap oe (ho5) rfl (by have :=j.size; omega) rfl (hC.wk j.md) (hxl) (h1) (by omega) (by omega) fun M w7 J G hz7 U=> ?_))
 have hE7:=Wk.own j.md ho5 G (Nat.le_refl _)
 refine ae (((i _ _ (rt (f1 rfl rfl ?_)))))
 have hz:World.ownsRow w7 w.heap.size 157 5 M n xs:=by simpa using J
 exact ⟨hz,hE7⟩
theorem zk (v:Value) (n:Nat) (xs:List Value) (w:World) (hv:Rd w.heap v n 5 xs) (h1:xs.all Value.oneCell'=true) (hn:n≤1048576):aK Tryz.prog 70 [v].toArray w (fun v w'=>World.ownsRow w' w.heap.size 157 5 v n xs∧Wk w w'):=by
 obtain ⟨a,c,rfl,hC,hxl,ha⟩:=hv
 exact zl a n c xs w hC hxl ha h1 hn
theorem zu (a:Option Addr) (n c:Nat) (xs:List Value) (w:World) (hC:aj w.heap a xs) (hxl:xs.length=n*1) (ha:a=none→n=0) (h1:xs.all Value.oneCell'=true) (hn:n≤1048576):
 aK Tryz.prog 71 (List.toArray [.slice a n c]) w (fun v' w'=>World.ownsRow w' w.heap.size 54 1 v' n xs∧Wk w w'):=by
 refine enter Tryz.func71 rfl Tryz.ntmps71 rfl ?_
 refine aa (fun _ s=>(ae (((s _ _ (sq (fun _ A=>aa (fun _ C=> ?_))))))))
 refine ab (.slice a n c) (p (k9 ot rfl rfl) (ag ((C _ _ (cb rfl (fun q=> ?_) (fun q=> ?_))))))
 have I:a=none:=by simpa using q
 refine aa (fun _ i=>(ae (((i _ _ (rt (tr (f1 rfl rfl ?_))))))))
 have hn0:=ha I
 subst hn0
 obtain rfl :=List.eq_nil_of_length_eq_zero (show xs.length=0 by omega)
 exact ⟨World.ownsRow_nil _ _ _ _,Md.refl _ _⟩
 refine az (tn (A _ _ (aa (fun _ i=>(e (jT od fun O w5 hb5 j E=> ?_))))))
 have ho5:=E w.heap.size (by omega)
 refine ab (.slice a n c) (e (ap od (ho5) rfl (by have :=j.size; omega) rfl (hC.wk j.md) (hxl) (h1) (by omega) (by omega) fun M w7 J G hz7 U=> ?_))
 have hE7:=Wk.own j.md ho5 G (Nat.le_refl _)
 refine ae (((i _ _ (rt (f1 rfl rfl ?_)))))
 have hz:World.ownsRow w7 w.heap.size 54 1 M n xs:=by simpa using J
 exact ⟨hz,hE7⟩
theorem zt (v:Value) (n:Nat) (xs:List Value) (w:World) (hv:Rd w.heap v n 1 xs) (h1:xs.all Value.oneCell'=true) (hn:n≤1048576):aK Tryz.prog 71 [v].toArray w (fun v w'=>World.ownsRow w' w.heap.size 54 1 v n xs∧Wk w w'):=by
 obtain ⟨a,c,rfl,hC,hxl,ha⟩:=hv
 exact zu a n c xs w hC hxl ha h1 hn
theorem zr (a:Option Addr) (n c:Nat) (xs:List Value) (w:World) (hC:aj w.heap a xs) (hxl:xs.length=n*7) (ha:a=none→n=0) (h1:xs.all Value.oneCell'=true) (hn:n≤1048576):
 aK Tryz.prog 72 (List.toArray [.slice a n c]) w (fun v' w'=>World.ownsRow w' w.heap.size 155 7 v' n xs∧Wk w w'):=by
 refine enter Tryz.func72 rfl Tryz.ntmps72 rfl ?_
 refine aa (fun _ s=>(ae (((s _ _ (sq (fun _ A=>aa (fun _ C=> ?_))))))))
 refine ab (.slice a n c) (p (k9 ou rfl rfl) (ag ((C _ _ (cb rfl (fun q=> ?_) (fun q=> ?_))))))
 have I:a=none:=by simpa using q
 refine aa (fun _ i=>(ae (((i _ _ (rt (tr (f1 rfl rfl ?_))))))))
 have hn0:=ha I
 subst hn0
 obtain rfl :=List.eq_nil_of_length_eq_zero (show xs.length=0 by omega)
 exact ⟨World.ownsRow_nil _ _ _ _,Md.refl _ _⟩
 refine az (tn (A _ _ (aa (fun _ i=>(e (jT og fun O w5 hb5 j E=> ?_))))))
 have ho5:=E w.heap.size (by omega)
 refine ab (.slice a n c) (e (ap og (ho5) rfl (by have :=j.size; omega) rfl (hC.wk j.md) (hxl) (h1) (by omega) (by omega) fun M w7 J G hz7 U=> ?_))
 have hE7:=Wk.own j.md ho5 G (Nat.le_refl _)
 refine ae (((i _ _ (rt (f1 rfl rfl ?_)))))
 have hz:World.ownsRow w7 w.heap.size 155 7 M n xs:=by simpa using J
 exact ⟨hz,hE7⟩
theorem zq (v:Value) (n:Nat) (xs:List Value) (w:World) (hv:Rd w.heap v n 7 xs) (h1:xs.all Value.oneCell'=true) (hn:n≤1048576):aK Tryz.prog 72 [v].toArray w (fun v w'=>World.ownsRow w' w.heap.size 155 7 v n xs∧Wk w w'):=by
 obtain ⟨a,c,rfl,hC,hxl,ha⟩:=hv
 exact zr a n c xs w hC hxl ha h1 hn
theorem zn (a:Option Addr) (n c:Nat) (xs:List Value) (w:World) (hC:aj w.heap a xs) (hxl:xs.length=n*2) (ha:a=none→n=0) (h1:xs.all Value.oneCell'=true) (hn:n≤1048576):
 aK Tryz.prog 48 (List.toArray [.slice a n c]) w (fun v' w'=>World.ownsRow w' w.heap.size 56 2 v' n xs∧Wk w w'):=by
 refine enter Tryz.func48 rfl Tryz.ntmps48 rfl ?_
 refine aa (fun _ s=>(ae (((s _ _ (sq (fun _ A=>aa (fun _ C=> ?_))))))))
 refine ab (.slice a n c) (p (k9 mI rfl rfl) (ag ((C _ _ (cb rfl (fun q=> ?_) (fun q=> ?_))))))
 have I:a=none:=by simpa using q
 refine aa (fun _ i=>(ae (((i _ _ (rt (tr (f1 rfl rfl ?_))))))))
 have hn0:=ha I
 subst hn0
 obtain rfl :=List.eq_nil_of_length_eq_zero (show xs.length=0 by omega)
 exact ⟨World.ownsRow_nil _ _ _ _,Md.refl _ _⟩
 refine az (tn (A _ _ (aa (fun _ i=>(e (jT n8 fun O w5 hb5 j E=> ?_))))))
 have ho5:=E w.heap.size (by omega)
 refine ab (.slice a n c) (e (ap n8 (ho5) rfl (by have :=j.size; omega) rfl (hC.wk j.md) (hxl) (h1) (by omega) (by omega) fun M w7 J G hz7 U=> ?_))
 have hE7:=Wk.own j.md ho5 G (Nat.le_refl _)
 refine ae (((i _ _ (rt (f1 rfl rfl ?_)))))
 have hz:World.ownsRow w7 w.heap.size 56 2 M n xs:=by simpa using J
 exact ⟨hz,hE7⟩
theorem zm (v:Value) (n:Nat) (xs:List Value) (w:World) (hv:Rd w.heap v n 2 xs) (h1:xs.all Value.oneCell'=true) (hn:n≤1048576):aK Tryz.prog 48 [v].toArray w (fun v w'=>World.ownsRow w' w.heap.size 56 2 v n xs∧Wk w w'):=by
 obtain ⟨a,c,rfl,hC,hxl,ha⟩:=hv
 exact zn a n c xs w hC hxl ha h1 hn
theorem xk (B fb mc:Nat) (F:aB) (V:cR) (w:World) (aH:bz w B fb mc F V) (hb:F.bH.length+F.aliases.length+F.a5.length+F.rules.length≤70000) (hnx:Nx F):
 aK Tryz.prog 38 (List.toArray [aU fb]) w (fun v w'=>(∃ bf,v= .agg (gd F bf).toArray∧wS w' w.heap.size F bf)∧Wk w w'):=by
 refine enter Tryz.func38 rfl Tryz.ntmps38 rfl ?_
 refine aa (fun _ bM=>(e (fP wH fun a0 O hb2 a3 hB2=> ?_)))
 have hz2:=a3.size
 have hF2:=aH.wk a3.md
 refine ag ((bM _ _ (sq (fun _ bU=>aa (fun _ bV=>(ab (aU fb) (p (fQ iY rfl rfl) (nl ?_))))))))
 refine tn (bV _ _ (cf (rfl) (az (tn (bU _ _ (aa (fun _ bW=>(ab (aU fb) (p (nc rfl) ?_)))))))))
 refine p (fa dw rfl) (p (da oG rfl (rfl) (show ∀ j,j < 13→Hb.aw O.heap fb (0 +j)=(gd F V)[j]? from fun j aP=>(aM hF2.cells).trans (by match j,aP with | 0,_=>rfl | 1,_=>rfl | 2,_=>rfl | 3,_=>rfl | 4,_=>rfl | 5,_=>rfl | 6,_=>rfl | 7,_=>rfl | 8,_=>rfl | 9,_=>rfl | 10,_=>rfl | 11,_=>rfl | 12,_=>rfl))) (e (fP wH fun M w3 cB bo b4=> ?_)))
 have hz3:=bo.size
 refine e (fY sy rfl rfl rfl (xE hF2) b4 (by decide) fun w30 bl b5=> ?_)
 have bi:Wk O w30:=bo.md.trans' bl (fun q a h=>by omega)
 have hz30:=bl.size
 have hF30:=hF2.wk bi
 have aN:w30.heap[M]? =some (.cells (gd F ⟨V.v9,V.v10,V.v11,V.di,V.sa,V.rn⟩).toArray 87 (0,0)):=b5
 refine ag ((bW _ _ (aa (fun _ bX=>(p (fa nK rfl) (p (ld q7 rfl ((aM aN).trans rfl)) (e (cl yS (zo V.v9 F.bH.length (ic F.bH) w30 (Rd.fU hF30.o9) (tg (fun _=>rfl) _) (by omega)) rfl fun J w16 ca=> ?_))))))))
 obtain ⟨bv,a1⟩:=ca
 have hz16:=a1.size
 have ho16x:=fV bv (show w3.heap.size≤w30.heap.size by omega)
 refine p (fa nK rfl) (e (cV su rfl rfl (v:=J) (dx bv) (a1.au aN) (by show _ < 13; omega) fun w4 a2 b6=> ?_))
 have hE4:Wk O w4:=(bi.trans a1).trans' a2 (fun q a h=>by omega)
 have hz4:=a2.size
 have hF4:=hF2.wk hE4
 have ho16y:=bu ho16x a2 (fun q a h=>by have :=(cM ho16x a).1; omega)
 have bs:w4.heap[M]? =some (.cells (gd F ⟨J,V.v10,V.v11,V.di,V.sa,V.rn⟩).toArray 87 (0,0)):=b6
 refine ag ((bX _ _ (aa (fun _ bY=>(p (fa lj rfl) (p (ld m4 rfl ((aM bs).trans rfl)) (e (cl yT (zk V.v11 F.a5.length (gT F.a5) w4 (Rd.fU hF4.dY) (tg (fun _=>rfl) _) (by omega)) rfl fun v20 w20 cb=> ?_))))))))
 obtain ⟨bB,aq⟩:=cb
 have hz20:=aq.size
 have ho20x:=fV bB (show w3.heap.size≤w4.heap.size by omega)
 refine p (fa lj rfl) (e (cV sw rfl rfl (v:=v20) (dx bB) (aq.au bs) (by show _ < 13; omega) fun w5 aL b7=> ?_))
 have hE5:Wk O w5:=(hE4.trans aq).trans' aL (fun q a h=>by omega)
 have hz5:=aL.size
 have hF5:=hF2.wk hE5
 have ho16z:=bu (aE ho16y aq) aL (fun q a h=>by have :=(cM (aE ho16y aq) a).1; omega)
 have ho20y:=bu ho20x aL (fun q a h=>by have :=(cM ho20x a).1; omega)
 have hc5:w5.heap[M]? =some (.cells (gd F ⟨J,V.v10,v20,V.di,V.sa,V.rn⟩).toArray 87 (0,0)):=b7
 refine ag ((bY _ _ (aa (fun _ bZ=>(p (fa jt rfl) (p (ld kn rfl ((aM hc5).trans rfl)) (e (cl yU (zt V.v10 F.aliases.length V.sa w5 (Rd.fU hF5.eH) (oH hF5.al) (by omega)) rfl fun bI cF cc=> ?_))))))))
 obtain ⟨bC,ac⟩:=cc
 have hz24:=ac.size
 have ho24x:=fV bC (show w3.heap.size≤w5.heap.size by omega)
 refine p (fa jt rfl) (e (cV sv rfl rfl (v:=bI) (dx bC) (ac.au hc5) (by show _ < 13; omega) fun w6 av hB6=> ?_))
 have b9:Wk O w6:=(hE5.trans ac).trans' av (fun q a h=>by omega)
 have hz6:=av.size
 have ho9a:=bu (aE ho16z ac) av (fun q a h=>by have :=(cM (aE ho16z ac) a).1; omega)
 have ho11a:=bu (aE ho20y ac) av (fun q a h=>by have :=(cM (aE ho20y ac) a).1; omega)
 have ho10a:=bu ho24x av (fun q a h=>by have :=(cM ho24x a).1; omega)
 have bt:w6.heap[M]? =some (.cells (gd F ⟨J,bI,v20,V.di,V.sa,V.rn⟩).toArray 87 (0,0)):=hB6
 obtain ⟨Y,e0,rfl⟩:=db ho10a
 have hsl:=aH.al.1
 refine ag ((bZ _ _ (sq (fun _ b0=>aa (fun _ b1=>(p (fa jt rfl) (p (ld kn rfl ((aM bt).trans rfl)) (p (bm ot rfl rfl) ?_))))))))
 refine p mv (ag ((b1 _ _ (au (lp (fun ap am wI=> ∃ (i:Nat) (sa:List Value),(i≤F.aliases.length)∧(sa.length=F.aliases.length)∧(sa.drop i=V.sa.drop i)∧(bO wI w3.heap.size 71 (sa.take i) (F.aliases.take i))∧(World.ownsRow wI w3.heap.size 54 1 (.slice Y F.aliases.length e0) F.aliases.length (sa))∧(World.ownsRow wI w3.heap.size 163 2 (J) F.bH.length (ic F.bH))∧(World.ownsRow wI w3.heap.size 157 5 (v20) F.a5.length (gT F.a5))∧(wI.heap[M]? =some (.cells (gd F ⟨J,.slice Y F.aliases.length e0,v20,V.di,V.sa,V.rn⟩).toArray 87 (0,0)))∧(Wk O wI)∧(w3.heap.size≤wI.heap.size)∧(am 2=aU a0)∧(am 3=aU M)∧(am 27= .slice Y F.aliases.length e0)∧(am 28=U (F.aliases.length))∧(am 29=U i)∧(F.aliases.length - i=ap)) _ ⟨0,V.sa,(by omega),hsl,rfl,(bO.nil _ _ _),ho10a,ho9a,ho11a,bt,b9,((by omega)),rfl,rfl,rfl,rfl,rfl,rfl⟩ ?_)))))
 rintro ap am wI ⟨i,sa,hi,aC,bG,hal,I,aV,aS,ax,aF,cC,cn,cr,co,cp,cq,rfl⟩
 refine fx 2 cn (fx 3 cr (fx 27 co (fx 28 cp (fx 29 cq (aa (fun _ bN=>(p (lt rfl rfl) (ag ((bN _ _ (sq (fun _ bP=>cd rfl (fun aN=> ?_) (fun aN=> ?_)))))))))))))
 refine az (tn (bP _ _ (sq (fun _ aX=>au (sq (fun _ aY=> ?_))))))
 obtain ⟨cE,cx,a7⟩:=bO.get (hF2.wk aF).al (show i < F.aliases.length by omega)
 obtain ⟨b2,ci,rfl⟩:=a7.slice
 refine rg rfl (ab (U i) (p (aG po rfl rfl (by omega) (aj.ok ((aA I).2) (fun h=>by rw [h] at aC; simp at aC; omega))) (p (ld km rfl (aj.g7 (aA I).2 ((ph bG).trans cx))) (p (bA (U i) rfl) (ae (((aY _ _ ?_))))))))
 have Z:(fun w'=>Wk wI w') wI.drew:=(Md.refl _ _).drew
 refine c5 (fun w'=>Wk wI w') 6 rfl wide Z (lq 0 rfl (by kernel_rfl) (fun _ _=>fa jt rfl) Z (lq 1 rfl (by kernel_rfl) (fun w' ak=>ld kn rfl (Wk.aw ak ((aM ax).trans rfl))) Z (lq 2 rfl (by kernel_rfl) (fun _ _=>ao (U i) rfl) Z (lq 3 rfl (by kernel_rfl) (fun _ _=>mv) Z (fK 4 rfl (by kernel_rfl) (cl nf (nj b2 (F.aliases.getD i []).length ci ((F.aliases.getD i []).map ay) wI.drew (aj.wk a7.bL.2 Z) (by simp) (fun h=>Tg.nS a7 (by simp) h) (m6 _) (by have :=hnx.1 _ (dW (d:= []) (show i < F.aliases.length by omega)); omega)) rfl fun cz w38 ce=> ?_))))))
 obtain ⟨ba,bj⟩:=ce
 have C:Wk wI w38:=Z.trans bj
 have hSI:=C
 have bp:(fun w'=>Wk wI w') w38:=Z.trans bj
 refine ⟨bp,?_⟩
 refine lq 5 rfl (by kernel_rfl) (fun _ _=>aG po rfl rfl (by omega) (aj.ok ((aA I).2) (fun h=>by rw [h] at aC; simp at aC; omega))) bp (bJ 6 rfl (by kernel_rfl) (by kernel_rfl) (lD (j:=i) (aE I C) nq rfl rfl (dx ba) (by simp) (by omega) fun w10 ah ho10=> ?_))
 have b8:Wk O w10:=Wk.own (aF.trans C) (aE I C) ah (by omega)
 have ho38x:=bu (fV ba (show w3.heap.size≤wI.heap.size by omega)) ah (fun q a=>ib ba (aE I C) (by decide) a)
 have hal10:=(hal.wk C).md ah (e9 (aE I C) (by decide))
 have ho9J:=bu (aE aV C) ah (fun q a=>ib (aE aV C) (aE I C) (by decide) a)
 have ho11J:=bu (aE aS C) ah (fun q a=>ib (aE aS C) (aE I C) (by decide) a)
 have hcJ:=ah.au (Wk.au C ax) (fun h=>by have :=(cM (aE I C) h).1; omega)
 refine c4 (by kernel_rfl) ?_
 exact bn (tn (aX _ _ (rg rfl (p (ad rfl rfl (bw (by omega))) (p mv (ag ((⟨_,by omega,i+1,sa.set i cz,(by omega),((by rw [List.length_set]; exact aC)),(set_drop bG),(ri hal10 (by omega) (by omega) (Tg.fU ho38x)),ho10,ho9J,ho11J,hcJ,b8,((by have :=hSI.size; have :=ah.size; omega)),rfl,rfl,rfl,rfl,rfl,rfl⟩))))))))
 refine ext (te _ (te _ (be (tn (b0 _ _ (aa (fun _ aX=>(p (fa ju rfl) ?_))))))))
 refine p (ld ko rfl ((aM ax).trans rfl)) (e (cl yV (zq V.di F.rules.length (eI (F.rules.zip V.rn)) wI (Rd.fU (hF2.wk aF).dG) (E9 aH.nx) (by omega)) rfl fun bK w43 cg=> ?_))
 obtain ⟨bD,hE43⟩:=cg
 have hz43:=hE43.size
 have ho43x:=fV bD (show w3.heap.size≤wI.heap.size by omega)
 rw [List.take_of_length_le (by omega),List.take_of_length_le (by omega)] at hal
 refine p (fa ju rfl) (e (cV sx rfl rfl (v:=bK) (dx bD) (Wk.au hE43 ax) (by show _ < 13; omega) fun w12 ai b3=> ?_))
 have hE12:Wk O w12:=(aF.trans hE43).trans' ai (fun q a h=>by omega)
 have hz12:=ai.size
 have ho9b:=bu (aE aV hE43) ai (fun q a h=>by have :=(cM (aE aV hE43) a).1; omega)
 have ho10b:=bu (aE I hE43) ai (fun q a h=>by have :=(cM (aE I hE43) a).1; omega)
 have ho11b:=bu (aE aS hE43) ai (fun q a h=>by have :=(cM (aE aS hE43) a).1; omega)
 have ho12b:=bu ho43x ai (fun q a h=>by have :=(cM ho43x a).1; omega)
 have halb:=(hal.wk hE43).md ai (ep (Wk.au hE43 ax) (by decide))
 have br:w12.heap[M]? =some (.cells (gd F ⟨J,.slice Y F.aliases.length e0,v20,bK,V.sa,V.rn⟩).toArray 87 (0,0)):=b3
 obtain ⟨an,gS,rfl⟩:=db ho12b
 have hrl:V.rn.length=F.rules.length:=by have :=aH.nx.1; rwa [List.length_map] at this
 refine ag ((aX _ _ (sq (fun _ aY=>aa (fun _ bQ=>(p (fa ju rfl) (p (ld ko rfl ((aM br).trans rfl)) (p (bm ou rfl rfl) ?_))))))))
 refine p mv (ag ((bQ _ _ (au (lp (fun ap aD A=> ∃ (i:Nat) (rn:List Value),(i≤F.rules.length)∧(rn.length=F.rules.length)∧(rn.drop i=V.rn.drop i)∧(bO A w3.heap.size 71 (rn.take i) ((F.rules.map (·.next)).take i))∧(World.ownsRow A w3.heap.size 155 7 (.slice an F.rules.length gS) F.rules.length (eI (F.rules.zip rn)))∧(World.ownsRow A w3.heap.size 163 2 (J) F.bH.length (ic F.bH))∧(World.ownsRow A w3.heap.size 54 1 (.slice Y F.aliases.length e0) F.aliases.length (sa))∧(bO A w3.heap.size 71 sa F.aliases)∧(World.ownsRow A w3.heap.size 157 5 (v20) F.a5.length (gT F.a5))∧(A.heap[M]? =some (.cells (gd F ⟨J,.slice Y F.aliases.length e0,v20,.slice an F.rules.length gS,V.sa,V.rn⟩).toArray 87 (0,0)))∧(Wk O A)∧(w3.heap.size≤A.heap.size)∧(aD 2=aU a0)∧(aD 3=aU M)∧(aD 47=U (F.rules.length))∧(aD 48=U i)∧(F.rules.length - i=ap)) _ ⟨0,V.rn,(by omega),hrl,rfl,(bO.nil _ _ _),ho12b,ho9b,ho10b,halb,ho11b,br,hE12,((by omega)),rfl,rfl,rfl,rfl,rfl⟩ ?_)))))
 rintro ap aD A ⟨i,rn,hi,cm,bF,hnl,E,aW,aR,bq,aT,aO,ar,cD,ct,cu,cv,cw,rfl⟩
 refine fx 2 ct (fx 3 cu (fx 47 cv (fx 48 cw (aa (fun _ bR=>(p (lt rfl rfl) (ag ((bR _ _ (sq (fun _ bS=>cd rfl (fun cj=> ?_) (fun cj=> ?_))))))))))))
 refine az (tn (bS _ _ (sq (fun _ aZ=>au (sq (fun _ bT=> ?_))))))
 obtain ⟨vn,cy,a8⟩:=bO.get (hF2.wk ar).nx (show i < (F.rules.map (·.next)).length by rw [List.length_map]; omega)
 obtain ⟨bg,bh,rfl⟩:=a8.slice
 obtain ⟨q,bc⟩:∃ q,F.rules[i]? =some q:=⟨_,List.getElem?_eq_getElem (by omega)⟩
 have ck:(F.rules.map (·.next)).getD i []=q.next:=by rw [List.getD_eq_getElem?_getD,List.getElem?_map,bc]; rfl
 have hql:=hnx.2 q (List.mem_of_getElem? bc)
 rw [← ck] at hql
 have bd:(F.rules.zip rn)[i]? =some (q,.slice bg ((F.rules.map (·.next)).getD i []).length bh):=List.getElem?_zip_eq_some.2 ⟨bc,(ph bF).trans cy⟩
 refine rg rfl (ab (U i) (p (bA (U i) rfl) (ag ((bT _ _ ?_)))))
 have G:(fun w'=>Wk A w') A.drew:=(Md.refl _ _).drew
 refine c5 (fun w'=>Wk A w') 12 rfl wide G (a4 0 rfl (fun _=>fa ju rfl) (fun _=>G) (cK 1 rfl (fun w' ak=>ld ko rfl (Wk.aw ak ((aM aO).trans rfl))) G (aI 2 rfl (U i) G (a4 3 rfl (fun _=>fa ju rfl) (fun _=>G) (cK 4 rfl (fun w' ak=>ld ko rfl (Wk.aw ak ((aM aO).trans rfl))) G (aI 5 rfl (U i) G (a4 6 rfl (fun _=>aG pq rfl rfl (by omega) (aj.ok ((aA E).2) (vk bd))) (fun _=>G) ?_)))))))
 refine a4 7 rfl (fun _=>fa nG rfl) (fun _=>G) (cK 8 rfl (fun w' ak=>ld km rfl (Wk.aw ak (iP (f:=fW) (m:=7) (fun _=>rfl) (aA E).2 bd 6 (by decide)))) G (fK 9 rfl (by kernel_rfl) (cl nf (nj bg ((F.rules.map (·.next)).getD i []).length bh (((F.rules.map (·.next)).getD i []).map ay) A.drew (aj.wk a8.bL.2 G) (by simp) (fun h=>Tg.nS a8 (by simp) h) (m6 _) (by omega)) rfl fun cA w60 ch=> ?_)))
 obtain ⟨bb,bk⟩:=ch
 have c:Wk A w60:=G.trans bk
 have hSK:=c
 have a6:(fun w'=>Wk A w') w60:=G.trans bk
 refine ⟨a6,?_⟩
 refine a4 10 rfl (fun _=>aG pq rfl rfl (by omega) (aj.ok ((aA E).2) (vk bd))) (fun _=>a6) (a4 11 rfl (fun _=>fa nG rfl) (fun _=>a6) (bJ 12 rfl (by kernel_rfl) (by kernel_rfl) (lD (j:=i*7 +6) (aE E c) nq rfl rfl (dx bb) (by rw [Int.toNat_natCast]; omega) (by omega) fun w16 hM16 bx=> ?_)))
 rw [Fa (by omega) (by omega)] at bx
 have hE16x:Wk O w16:=Wk.own (ar.trans c) (aE E c) hM16 (by omega)
 have ho60x:=bu (fV bb (show w3.heap.size≤A.heap.size by omega)) hM16 (fun q a=>ib bb (aE E c) (by decide) a)
 have hnl16:=(hnl.wk c).md hM16 (e9 (aE E c) (by decide))
 have hal16:=(bq.wk c).md hM16 (e9 (aE E c) (by decide))
 have ho9L:=bu (aE aW c) hM16 (fun q a=>ib (aE aW c) (aE E c) (by decide) a)
 have ho10L:=bu (aE aR c) hM16 (fun q a=>ib (aE aR c) (aE E c) (by decide) a)
 have ho11L:=bu (aE aT c) hM16 (fun q a=>ib (aE aT c) (aE E c) (by decide) a)
 have hcL:=hM16.au (Wk.au c aO) (fun h=>by have :=(cM (aE E c) h).1; omega)
 refine c4 (by kernel_rfl) ?_
 exact bn (tn (aZ _ _ (rg rfl (p (ad rfl rfl (bw (by omega))) (p mv (ag ((⟨_,by omega,i+1,rn.set i cA,(by omega),((by rw [List.length_set]; exact cm)),(set_drop bF),(ri hnl16 (by rw [List.length_map]; omega) (by omega) (Tg.fU ho60x)),bx,ho9L,ho10L,hal16,ho11L,hcL,hE16x,((by have :=hSK.size; have :=hM16.size; omega)),rfl,rfl,rfl,rfl,rfl⟩))))))))
 refine ext (te _ (te _ (be (tn (aY _ _ (aa (fun _ aZ=>(p (da oG rfl (rfl) (show ∀ j,j < 13→Hb.aw A.heap M (0 +j)=(gd F ⟨J,.slice Y F.aliases.length e0,v20,.slice an F.rules.length gS,V.sa,V.rn⟩)[j]? from fun j aP=>(aM aO).trans (by match j,aP with | 0,_=>rfl | 1,_=>rfl | 2,_=>rfl | 3,_=>rfl | 4,_=>rfl | 5,_=>rfl | 6,_=>rfl | 7,_=>rfl | 8,_=>rfl | 9,_=>rfl | 10,_=>rfl | 11,_=>rfl | 12,_=>rfl))) ?_))))))))
 refine e (fY sy rfl rfl rfl (rp (dx aW) (dx aR) (dx aT) (dx E)) (Wk.au ar hB2) (by decide) fun w18 aJ hB18=>ag ((aZ _ _ (rt (l3 rfl (cW (cs:=gd F ⟨J,.slice Y F.aliases.length e0,v20,.slice an F.rules.length gS,V.sa,V.rn⟩) rfl oG rfl (fun j aP=>(a9.bE ⟨_,hB18⟩ j).trans rfl)) ?_)))))
 have aQ:∀ {t s n:Nat} {v:Value} {xs:List Value},World.ownsRow A w3.heap.size t s v n xs→World.ownsRow w18 w.heap.size t s v n xs:=fun h=>fV (bu h aJ (fun q a h2=>by have :=(cM h a).1; omega)) (by omega)
 rw [List.take_of_length_le (by omega),List.take_of_length_le (by rw [List.length_map]; omega)] at hnl
 have hfl:∀ k,k=a0→∀ cur z,A.heap[k]?≠some (.cells cur 71 z):=ep (Wk.au ar hB2) (by decide)
 exact ⟨⟨⟨J,.slice Y F.aliases.length e0,v20,.slice an F.rules.length gS,sa,rn⟩,rfl,⟨aQ aW,aQ aR,(bq.md aJ hfl).mono (by omega),aQ aT,aQ E,(hnl.md aJ hfl).mono (by omega)⟩⟩,(a3.md.trans ar).trans' aJ (fun q a h=>by omega)⟩
end Go.Hb.jN
end
section
set_option maxRecDepth 20000
set_option maxHeartbeats 1000000
namespace Go.Hb.kb
open Go.Hb.cG
open Go.Proofs
open Go.Hb.eJ Go.Hb.fg Go.Hb.fz Go.Hb.im Go.Hb.j8 Go.Hb.lP Go.Hb.g5 Go.Hb.j9 Go.Hb.fG Go.Hb.jN Go.Hb.jj Go.Hb.gP Go.Hb.mT Go.Hb.fZ
noncomputable def gk (r:List Tx):Nat×Int:=if r.length≠1 then (0,111) else dp (r.getD 0 []) 8192
def wV (c w':World) (X:Except Nat cE) (v:Value):Prop :=(∃ x a,X= .ok x∧v= .tuple #[.agg [str x.1,a].toArray,.int .i64 (0:Nat)]∧World.ownsRow w' c.heap.size 71 1 a x.2.length (x.2.map ay))∨(∃ e,X= .error e∧e≠0∧v= .tuple #[.agg [str [],.slice none 0 0].toArray,.int .i64 (e:Nat)])
theorem uP {s:Tx} {i:Nat} (hi:i < s.length):(s.take (i+1)).drop i= [s.getD i 0]:=by
 rw [qy 0 (Nat.le_refl i) hi,List.drop_eq_nil_of_le (by rw [List.length_take]; omega),List.nil_append]
theorem wa (b:UInt8):jJ [b]=eF b:=by unfold jJ; rw [xT]; cases eF b <;> rfl
theorem sD {F:aB} {x:Nat} (h:(du F.a5 x).isSome=true∨x∈F.sp):cJ F x=true :=by
 unfold cJ; rcases h with h | h
 · rw [h,Bool.or_true]
 · rw [decide_eq_true h]; rfl
theorem Ak {F:aB} {x:Nat} (h:(du F.a5 x).isSome=false) (h1:x∉F.sp):cJ F x=false :=by
 unfold cJ; rw [h,decide_eq_false h1]; rfl
theorem FE {F:aB} (h:F.sp.length=5):[F.sp.getD 0 0,F.sp.getD 1 0,F.sp.getD 2 0,F.sp.getD 3 0,F.sp.getD 4 0]=F.sp:=by
 match F.sp,h with
 | [a,b,c,d,e],_=>rfl
theorem CA (a:Option Addr) (c:Nat) (l:List Nat) (x:Nat) (w:World) (hC:aj w.heap a (l.map ay)) (hl:l.length≤1048576):
 aK Tryz.prog 105 (List.toArray [.slice a l.length c,ay x]) w (fun v w'=>(∃ k:Int,v= .int .i64 k∧(0≤k↔x∈l)∧ -1≤k∧k≤1048576)∧Wk w w'):=by
 refine enter Tryz.func105 rfl Tryz.ntmps105 rfl ?_
 refine aa (fun _ I=>(ae (((I _ _ (sq (fun _ J=>aa (fun _ M=> ?_))))))))
 refine ab (.slice a l.length c) (p (bm iZ rfl rfl) (p mv (ag ((M _ _ (au (lp (fun A q wI=> ∃ (i:Nat),(i≤l.length)∧(∀ j,j < i→l.getD j 0≠x)∧(wI=w)∧(q 0= .slice a l.length c)∧(q 1=ay x)∧(q 7=U (l.length))∧(q 8=U i)∧(l.length - i=A)) _ ⟨0,(by omega),((fun j E=>by omega)),rfl,rfl,rfl,rfl,rfl,rfl⟩ ?_)))))))
 rintro A q wI ⟨i,hi,G,ah,al,am,an,ao,rfl⟩
 refine fx 0 al (fx 1 am (fx 7 an (fx 8 ao ?_)))
 subst ah
 refine aa (fun _ O=>(p (lt rfl rfl) (ag ((O _ _ (sq (fun _ V=>cd rfl (fun ai=> ?_) (fun ai=> ?_))))))))
 refine az (tn (V _ _ (sq (fun _ s=>au (aa (fun _ Y=>(ab (U i) (p (bA (U i) rfl) ?_))))))))
 refine ag ((Y _ _ (aa (fun _ Z=>(ab (ay x) (ab (.slice a l.length c) (ab (U i) (p (aG aY rfl rfl (by omega) (aj.ok (hC) (bN (by omega)))) ?_))))))))
 refine p (ld bc rfl (aj.g7 hC (show (l.map ay)[i]? =some (ay (l.getD i 0)) by rw [List.getElem?_map,List.getD_eq_getElem?_getD,List.getElem?_eq_getElem (by omega :i < l.length)]; rfl))) ?_
 refine p (ba rfl rfl) (ag ((Z _ _ (cd rfl (fun C=> ?_) (fun C=> ?_)))))
 refine aa (fun _ ac=>(ab (U i) (p (bA (U i) rfl) (ag ((ac _ _ (rt (br ?_))))))))
 exact tr (tr (br (tr (f1 rfl rfl (⟨⟨(i:Nat),rfl,⟨fun _=>by obtain rfl :x=l.getD i 0:=(by omega); exact dW (by omega),fun _=>by omega⟩,by omega,by omega⟩,Md.refl _ _⟩)))))
 refine az (bn (tn (s _ _ (rg rfl (p (ad rfl rfl (bw (by omega))) (p mv (nl (tn ?_))))))))
 exact ⟨_,by omega,i+1,(by omega),((fun j E=>by rcases Nat.lt_or_ge j i with h | h <;> first | exact G j h | (rw [show j=i by omega]; exact fun h2=>C (by rw [h2])))),rfl,rfl,rfl,rfl,rfl,rfl⟩
 refine ext (te _ (te _ (be (tn (J _ _ (aa (fun _ s=>(p ak ?_))))))))
 exact ag ((s _ _ (rt (f1 rfl rfl (⟨⟨-1,rfl,⟨fun h=>absurd h (by omega),fun h=>by obtain ⟨j,E,e⟩:=mi 0 h; exact absurd e (G j (by omega))⟩,by omega,by omega⟩,Md.refl _ _⟩)))))
theorem zQ (a:Option Addr) (c:Nat) (l:List Nat) (x:Nat) (w:World) (hC:aj w.heap a (l.map ay)) (hl:l.length≤1048576):
 aK Tryz.prog 76 (List.toArray [.slice a l.length c,ay x]) w (fun v w'=>v= .bool (decide (x∈l))∧Wk w w'):=by
 refine enter Tryz.func76 rfl Tryz.ntmps76 rfl ?_
 refine aa (fun _ i=>(ae (((i _ _ (aa (fun _ j=>(ab (.slice a l.length c) ?_))))))))
 refine ab (ay x) (e (cl xV (CA a c l x w hC hl) rfl fun C w7 hR7=> ?_))
 obtain ⟨⟨s,rfl,q,A⟩,hE7⟩:=hR7
 exact p (ge rfl rfl) (ae (((j _ _ (rt (f1 rfl rfl (⟨by show Value.bool (decide (s≥0))=_; exact congrArg Value.bool (decide_eq_decide.2 q),hE7⟩)))))))
theorem k4 (ln er:Int) (w:World):
 aK Tryz.prog 36 (List.toArray [.int .i64 ln,.int .i64 er]) w (fun v w'=>v= .agg [.int .i64 2,.int .i64 ln,.int .i64 er].toArray∧Wk w w'):=by
 refine enter Tryz.func36 rfl Tryz.ntmps36 rfl ?_
 refine aa (fun _ a=>(e (al eZ fun E w4 G C s=>ag ((a _ _ (aa (fun _ c=>(ab (.int .i64 ln) ?_))))))))
 exact ab (.int .i64 er) (p (bZ (ps:= [(0,.int .i64 2),(1,.int .i64 ln),(2,.int .i64 er)]) (L:= [.int .i64 2,.int .i64 ln,.int .i64 er]) kJ rfl (rfl)) (e (bC dz rfl rfl rfl rfl (s) (by simp) fun M A i=>ag ((c _ _ (rt (l3 rfl (cW (cs:= [.int .i64 2,.int .i64 ln,.int .i64 er]) rfl fO rfl (fun j I=>i.bE j)) (⟨rfl,C.md.trans' A (fun q J h=>by omega)⟩))))))))
theorem Aw (n:Nat) (r:List Tx) (B:Nat) (a:Option Addr) (c:Nat) (w:World) (hT:Tg w B 9 r.length (.slice a r.length c) (r.map str)) (hrl:∀ x∈r,x.length≤70000) (hr:r.length≤70000):
 aK Tryz.prog 37 (List.toArray [.agg [U n,.slice a r.length c].toArray]) w (fun v w'=>v= .tuple #[U ((gk r).1),.int .i64 (gk r).2]∧Wk w w'):=by
 refine enter Tryz.func37 rfl Tryz.ntmps37 rfl ?_
 refine aa (fun _ s=>(e (jm rfl fun I w1 J q hB1=> ?_)))
 have hT1:=hT.wk q.md
 refine p ak (ae (((s _ _ (sq (fun _ A=>aa (fun _ C=>(p (fa l6 rfl) ?_))))))))
 refine p (ld kj rfl ((hB1.aw 1).trans rfl)) (p (bm dI rfl rfl) (p (dF rfl rfl) (ag ((C _ _ (cd rfl (fun G=> ?_) (fun G=> ?_)))))))
 refine aa (fun _ j=>(p ak (ae (((j _ _ (rt (tr ?_))))))))
 refine f2 rfl rfl rfl ?_
 have h1:r.length≠1:=by omega
 exact ⟨by unfold gk; rw [if_pos h1]; rfl,q.md⟩
 refine az (tn (A _ _ (aa (fun _ j=>(p (fa l6 rfl) (p (ld kj rfl ((hB1.aw 1).trans rfl)) (p (aG bU rfl rfl (by omega) (aj.ok (hT1.bL.2) (bN (by omega)))) (p (ld bY rfl (bB.get (i:=0) hT1.bL.2 (by omega))) ?_))))))))
 refine e (cl ng (nV (r.getD 0 []) 8192 w1 (by have :=hrl _ (dW (d:= []) (show 0 < r.length by omega)); omega) (by omega)) rfl fun di w12 E=> ?_)
 obtain ⟨rfl,hE12⟩:=E
 refine p (xt rfl rfl) (p (xt rfl rfl) (p ak (ae (((j _ _ (rt (f2 rfl rfl rfl ?_))))))))
 have h1:¬r.length≠1:=by omega
 exact ⟨by unfold gk; rw [if_neg h1]; rfl,q.md.trans hE12⟩
theorem Ar (B fb mc:Nat) (F:aB) (V:cR) (n:Nat) (r:List Tx) (a9:Nat) (a0:Option Addr) (a2:Nat) (w:World) (aP:bz w B fb mc F V) (bT:∃ seen,fE F [] seen) (cc:Tg w a9 9 r.length (.slice a0 r.length a2) (r.map str)) (hrl:∀ x∈r,x.length≤70000) (hr:r.length≤70000):
 aK Tryz.prog 39 (List.toArray [aU fb,.agg [ay (F.sp.getD 0 0),ay (F.sp.getD 1 0),ay (F.sp.getD 2 0),ay (F.sp.getD 3 0),ay (F.sp.getD 4 0)].toArray,.agg [U n,.slice a0 r.length a2].toArray]) w (fun v w'=>wV w w' (dV F r) v∧Wk w w'):=by
 obtain ⟨seen,av⟩:=bT
 have hbl:=av.len
 have hwl:=oA (r.getD 0 [])
 refine enter Tryz.func39 rfl Tryz.ntmps39 rfl ?_
 refine aa (fun _ ba=>(e (jm rfl fun aM w4 cL a6 bP=>e (jm rfl fun cH w5 hb5 aQ bQ=>e (al wz fun a1 w6 hb6 aC hB6=> ?_)))))
 have ax:Wk w w6:=a6.md.trans (aQ.md.trans aC.md)
 have hq4:=aC.md.B (aQ.md.B bP)
 have hq5:=aC.md.B bQ
 have hT:=cc.wk ax
 have hF6:=aP.wk ax
 have hz4:=a6.size
 have hz5:=aQ.size
 have hz6:=aC.size
 refine ae (((ba _ _ (sq (fun _ bh=>aa (fun _ bq=>(p (fa l6 rfl) (p (ld kj rfl ((hq5.aw 1).trans rfl)) ?_))))))))
 refine p (bm dI rfl rfl) (p (dF rfl rfl) (ag ((bq _ _ (cd rfl (fun ce=> ?_) (fun ce=> ?_))))))
 refine aa (fun _ aJ=>(p (bZ (ps:= []) (L:= [.string ⟨⟨[]⟩⟩,.slice none 0 0]) jF rfl (rfl)) (e (bC iM rfl rfl rfl rfl (hB6) (by simp) fun c4 b4 bO=>ae (((aJ _ _ (rt ?_))))))))
 exact tr (ee rfl (cW (cs:= [str [],.slice none 0 0]) rfl iy rfl (fun j C=>bO.bE j)) dB (⟨.inr ⟨111,AL (by omega),by decide,rfl⟩,ax.trans' b4 (fun q c h=>by omega)⟩))
 have J:r.length=1:=by omega
 have cN:(r.getD 0 []).length≤70000:=hrl _ (dW (by omega))
 refine az (tn (bh _ _ (aa (fun _ aJ=>(p (fa l6 rfl) (p (ld kj rfl ((hq5.aw 1).trans rfl)) (p (aG bU rfl rfl (by omega) (aj.ok (hT.bL.2) (bN (by omega)))) (p (ld bY rfl (bB.get (i:=0) hT.bL.2 (by omega))) ?_))))))))
 refine e (cl oT (qL (r.getD 0 []) w6 (by omega)) rfl fun cO w28 b6=> ?_)
 obtain ⟨rfl,an⟩:=b6
 have hE28x:=ax.trans an
 have hb28:=an.B hB6
 have hz28:=an.size
 refine p mv (p (xt rfl rfl) (p (xt rfl rfl) (p (xt rfl rfl) (p (xt rfl rfl) (p ak (p ak (p ak ?_)))))))
 refine ae (((aJ _ _ (sq (fun _ bs=>aa (fun _ bt=>(p mv (p (dF rfl rfl) ?_))))))))
 refine ag ((bt _ _ (cd rfl (fun cg=> ?_) (fun cg=> ?_))))
 refine aa (fun _ aL=>(p (bZ (ps:= []) (L:= [.string ⟨⟨[]⟩⟩,.slice none 0 0]) jF rfl (rfl)) (p mv (e (bC iM rfl rfl rfl rfl (hb28) (by simp) fun c5 b5 bS=>ae (((aL _ _ ?_))))))))
 exact rt (tr (ee rfl (cW (cs:= [str [],.slice none 0 0]) rfl iy rfl (fun j C=>bS.bE j)) dB (⟨.inr ⟨_,AM J (by omega),(by omega),rfl⟩,hE28x.trans' b5 (fun q c h=>by omega)⟩)))
 have Z:(aV (r.getD 0 [])).2.2.2=0:=by omega
 refine az (tn (bs _ _ (sq (fun _ aL=>aa (fun _ bv=>(p mv (p (bR u9 rfl rfl) (p mv ?_))))))))
 refine ag ((bv _ _ (au (lp (fun ai E wI=> ∃ (i:Nat),(i≤(aV (r.getD 0 [])).1.length)∧(∀ j,j < i→eF ((aV (r.getD 0 [])).1.getD j 0)=true)∧(Wk w28 wI)∧(E 0=aU fb)∧(E 4=aU aM)∧(E 6=aU a1)∧(E 8=str (aV (r.getD 0 [])).1)∧(E 9=str (aV (r.getD 0 [])).2.1)∧(E 10= .bool (aV (r.getD 0 [])).2.2.1)∧(E 38=U ((aV (r.getD 0 [])).1.length))∧(E 39=U i)∧((aV (r.getD 0 [])).1.length - i=ai)) _ ⟨0,(by omega),((fun j C=>by omega)),(Md.refl _ _),rfl,rfl,rfl,rfl,rfl,rfl,rfl,rfl,rfl⟩ ?_))))
 rintro ai E wI ⟨i,hi,a8,A,cn,cr,ct,cu,cv,co,cp,cq,rfl⟩
 refine fx 0 cn (fx 4 cr (fx 6 ct (fx 8 cu (fx 9 cv (fx 10 co (fx 38 cp (fx 39 cq (aa (fun _ bx=>(p (lt rfl rfl) (ag ((bx _ _ (sq (fun _ bb=>cd rfl (fun ch=> ?_) (fun ch=> ?_))))))))))))))))
 refine az (tn (bb _ _ (sq (fun _ aD=>au (aa (fun _ aF=>(ab (U i) (p (bA (U i) rfl) ?_))))))))
 refine ag ((aF _ _ (aa (fun _ ac=>(ab (str (aV (r.getD 0 [])).1) (ab (U i) (ab (U i) (p (ad rfl rfl (bw (by omega))) ?_))))))))
 refine p (mE u9 rfl rfl rfl (by omega)) (e (cl rZ (wc (((aV (r.getD 0 [])).1.take (i+1)).drop i) wI (by rw [uP (by omega)]; simp)) rfl fun cP cT b7=> ?_))
 obtain ⟨rfl,hE47⟩:=b7
 have hon:=uP (s:=(aV (r.getD 0 [])).1) (i:=i) (by omega)
 have hE47x:=A.trans hE47
 refine p (no rfl) (ag ((ac _ _ (cb rfl (fun aS=> ?_) (fun aS=> ?_)))))
 have aX:eF ((aV (r.getD 0 [])).1.getD i 0)=false :=by rw [← wa,← hon]; simpa using aS
 refine aa (fun _ ah=>(p (bZ (ps:= []) (L:= [.string ⟨⟨[]⟩⟩,.slice none 0 0]) jF rfl (rfl)) (e (bC iM rfl rfl rfl rfl (Wk.B hE47x hb28) (by simp) fun cX bV bD=>ae (((ah _ _ (rt ?_))))))))
 exact br (tr (tr (br (tr (ee rfl (cW (cs:= [str [],.slice none 0 0]) rfl iy rfl (fun j C=>bD.bE j)) dB (⟨.inr ⟨21,sM J Z (.inl (na (by omega) aX)),by decide,rfl⟩,(hE28x.trans hE47x).trans' bV (fun q c h=>by omega)⟩))))))
 have aX:eF ((aV (r.getD 0 [])).1.getD i 0)=true :=by rw [← wa,← hon]; simpa using aS
 refine az (bn (tn (aD _ _ (rg rfl (p (ad rfl rfl (bw (by omega))) (p mv (nl (tn ?_))))))))
 exact ⟨_,by omega,i+1,(by omega),((fun j C=>by rcases Nat.lt_or_ge j i with h | h <;> first | exact a8 j h | (rw [show j=i by omega]; exact aX))),hE47x,rfl,rfl,rfl,rfl,rfl,rfl,rfl,rfl,rfl⟩
 refine ext (te _ (te _ (be (tn (aL _ _ (sq (fun _ aD=>au (sq (fun _ aF=> ?_)))))))))
 refine rg rfl (ab (str (aV (r.getD 0 [])).1) (p (e5 rfl rfl) (ae (((aF _ _ (cd rfl (fun Y=> ?_) (fun Y=> ?_))))))))
 refine aa (fun _ ac=>(p (bZ (ps:= []) (L:= [.string ⟨⟨[]⟩⟩,.slice none 0 0]) jF rfl (rfl)) (e (bC iM rfl rfl rfl rfl (Wk.B A hb28) (by simp) fun cY bW bF=>ae (((ac _ _ (rt ?_))))))))
 exact br (tr (ee rfl (cW (cs:= [str [],.slice none 0 0]) rfl iy rfl (fun j C=>bF.bE j)) dB (⟨.inr ⟨21,sM J Z (.inr Y),by decide,rfl⟩,(hE28x.trans A).trans' bW (fun q c h=>by omega)⟩)))
 have hby:=nb (w:=(aV (r.getD 0 [])).1) (fun j C=>a8 j (by omega))
 refine aa (fun _ ac=>(ab (str (aV (r.getD 0 [])).1) (p (bR u9 rfl rfl) (p (gt rfl rfl) (ae (((ac _ _ ?_))))))))
 refine cd rfl (fun ci=> ?_) (fun ci=> ?_)
 refine aa (fun _ ah=>(p (bZ (ps:= []) (L:= [.string ⟨⟨[]⟩⟩,.slice none 0 0]) jF rfl (rfl)) (e (bC iM rfl rfl rfl rfl (Wk.B A hb28) (by simp) fun cZ bX bG=>ae (((ah _ _ (rt ?_))))))))
 exact br (tr (ee rfl (cW (cs:= [str [],.slice none 0 0]) rfl iy rfl (fun j C=>bG.bE j)) dB (⟨.inr ⟨22,AN J Z hby Y (by omega),by decide,rfl⟩,(hE28x.trans A).trans' bX (fun q c h=>by omega)⟩)))
 refine aa (fun _ ah=>(ab (.bool (aV (r.getD 0 [])).2.2.1) (p (no rfl) (ae (((ah _ _ (cb rfl (fun ao=> ?_) (fun ao=> ?_)))))))))
 refine aa (fun _ aH=>(ab (str (aV (r.getD 0 [])).1) (p (bZ (ps:= [(0,str (aV (r.getD 0 [])).1)]) (L:= [str (aV (r.getD 0 [])).1,.slice none 0 0]) jF rfl (rfl)) (e (bC iM rfl rfl rfl rfl (Wk.B A hb28) (by simp) fun c0 b0 bI=>ae (((aH _ _ ?_))))))))
 exact rt (br (tr (ee rfl (cW (cs:= [str (aV (r.getD 0 [])).1,.slice none 0 0]) rfl iy rfl (fun j C=>bI.bE j)) dB (⟨.inl ⟨_,.slice none 0 0,sN J Z hby Y (by omega) (by simpa using ao),rfl,World.ownsRow_nil _ _ _ _⟩,(hE28x.trans A).trans' b0 (fun q c h=>by omega)⟩))))
 refine az (bn (tn (aD _ _ (aa (fun _ aH=>(ab (aU fb) (ab (str (aV (r.getD 0 [])).2.1) (e (cl r3 (sY B fb mc F V (aV (r.getD 0 [])).2.1 wI (hF6.wk (an.trans A)) av.kd av.al (by omega) (by omega)) rfl fun cE w68 b8=> ?_)))))))))
 obtain ⟨cm,aN⟩:=b8
 have hE68x:=hE28x.trans (A.trans aN)
 have hb68:=Wk.B (A.trans aN) hb28
 obtain ⟨cF,cI,rfl,hcs⟩:∃ a,∃ e:Nat,cE= .tuple #[a,U e]∧((e=0∧∃ l,dN F.kind F.aliases (aV (r.getD 0 [])).2.1= .ok l∧World.ownsRow w68 wI.heap.size 71 1 a l.length (l.map ay))∨(e≠0∧dN F.kind F.aliases (aV (r.getD 0 [])).2.1= .error e)):=by
  rcases cm with ⟨a,l,h1,h2,h3⟩ | ⟨a,e,h1,h2,h3⟩
  exact ⟨a,0,h1,.inl ⟨rfl,l,h2,h3⟩⟩
  exact ⟨a,e,h1,.inr ⟨h2,h3⟩⟩
 refine p mv (p (xt rfl rfl) (p (xt rfl rfl) (p ak (ae (((aH _ _ (sq (fun _ bd=> ?_)))))))))
 refine aa (fun _ bf=>(p mv (p (dF rfl rfl) (ag ((bf _ _ (cd rfl (fun cj=> ?_) (fun cj=> ?_))))))))
 obtain ⟨hne,ap⟩:=hcs.resolve_left (fun h=>by omega)
 refine aa (fun _ aI=>(p (bZ (ps:= []) (L:= [.string ⟨⟨[]⟩⟩,.slice none 0 0]) jF rfl (rfl)) (p mv (e (bC iM rfl rfl rfl rfl (hb68) (by simp) fun c1 b1 bJ=>ae (((aI _ _ ?_))))))))
 exact rt (tr (ee rfl (cW (cs:= [str [],.slice none 0 0]) rfl iy rfl (fun j C=>bJ.bE j)) dB (⟨.inr ⟨_,AO J Z hby Y (by omega) (by simpa using ao) ap,hne,rfl⟩,hE68x.trans' b1 (fun q c h=>by omega)⟩)))
 obtain ⟨_,set,ap,aq⟩:=hcs.resolve_right (fun h=>by omega)
 obtain ⟨M,O,rfl⟩:=db aq
 have hsl:=ta (fun l hl=>(av.al l hl).1) ap
 refine az (tn (bd _ _ (sq (fun _ aI=>aa (fun _ bg=>(p mv (p (bm Gc rfl rfl) (p mv ?_))))))))
 refine ag ((bg _ _ (au (lp (fun ai G aY=> ∃ (j:Nat),(j≤set.length)∧(∀ q,q < j→cJ F (set.getD q 0)=true)∧(Wk w68 aY)∧(G 0=aU fb)∧(G 4=aU aM)∧(G 6=aU a1)∧(G 8=str (aV (r.getD 0 [])).1)∧(G 13= .slice M set.length O)∧(G 75= .slice M set.length O)∧(G 76=U (set.length))∧(G 77=U j)∧(set.length - j=ai)) _ ⟨0,(by omega),((fun q c=>by omega)),(Md.refl _ _),rfl,rfl,rfl,rfl,rfl,rfl,rfl,rfl,rfl⟩ ?_))))
 rintro ai G aY ⟨j,C,aR,I,cw,cy,cz,cD,cx,cA,cB,cC,rfl⟩
 refine fx 0 cw (fx 4 cy (fx 6 cz (fx 8 cD (fx 13 cx (fx 75 cA (fx 76 cB (fx 77 cC (aa (fun _ bi=>(p (lt rfl rfl) (ag ((bi _ _ (sq (fun _ bj=>cd rfl (fun ck=> ?_) (fun ck=> ?_))))))))))))))))
 refine az (tn (bj _ _ (sq (fun _ ar=>au (aa (fun _ bk=>(p (aG A3 rfl rfl (by omega) (aj.ok ((aA (aE aq I)).2) (bN (by omega)))) (p (ld bc rfl (aj.g7 (aA (aE aq I)).2 (show (set.map ay)[j]? =some (ay (set.getD j 0)) by rw [List.getElem?_map,List.getD_eq_getElem?_getD,List.getElem?_eq_getElem (by omega :j < set.length)]; rfl))) ?_))))))))
 refine ae (((bk _ _ (aa (fun _ bo=>(ab (aU fb) (p mv (e (cl rY (sV B fb mc F V (set.getD j 0) aY (aP.wk (hE68x.trans I)) (by omega)) rfl fun cQ cU b9=> ?_)))))))))
 obtain ⟨rfl,a3⟩:=b9
 have hz84:=a3.size
 have hzJ:=I.size
 refine p mv (p (xt rfl rfl) (p (xt rfl rfl) (e (al mM fun cG w16 hb16 a5 bH=>e (bC k3 rfl rfl rfl rfl (bH) (by simp) fun wt24_7 b2 cK=> ?_)))))
 have hz16:=a5.size
 have am:Wk w68 wt24_7:=(I.trans (a3.trans a5.md)).trans' b2 (fun q c h=>by omega)
 refine ae (((bo _ _ (aa (fun _ aZ=>(p mv (p (no rfl) (p mv ?_))))))))
 refine gb (t:=89) rfl (fun aW=> ?_) (fun aW=> ?_)
 refine pg rfl rfl rfl (xD oI rfl) (pg rfl rfl rfl mv (eg rfl rfl rfl (cl yW (zQ (some ⟨aM,0,none⟩) 5 [F.sp.getD 0 0,F.sp.getD 1 0,F.sp.getD 2 0,F.sp.getD 3 0,F.sp.getD 4 0] (set.getD j 0) wt24_7 (aj.dZ (Wk.B ((an.trans (A.trans aN)).trans am) hq4)) (by simp)) rfl fun cS cV ca=> ?_)))
 obtain ⟨rfl,aO⟩:=ca
 rw [FE aP.fL] at*
 refine pg rfl rfl rfl (no rfl) (p (bl rfl) (ag ((aZ _ _ (cb rfl (fun aT=> ?_) (fun aT=> ?_))))))
 refine aa (fun _ bp=>(p (bZ (ps:= []) (L:= [.string ⟨⟨[]⟩⟩,.slice none 0 0]) jF rfl (rfl)) (e (bC iM rfl rfl rfl rfl (Wk.B (am.trans aO) hb68) (by simp) fun c2 b3 bK=>ae (((bp _ _ (rt ?_))))))))
 exact br (tr (tr (br (tr (ee rfl (cW (cs:= [str [],.slice none 0 0]) rfl iy rfl (fun j C=>bK.bE j)) dB (⟨.inr ⟨120,AP J Z hby Y (by omega) (by simpa using ao) ap (i:=j) (by omega) (Ak (by simpa using aW) (by simpa using aT)),by decide,rfl⟩,(hE68x.trans (am.trans aO)).trans' b3 (fun q c h=>by omega)⟩))))))
 refine az (bn (tn (ar _ _ (rg rfl (p (ad rfl rfl (bw (by omega))) (p mv (nl (tn ?_))))))))
 exact ⟨_,by omega,j+1,(by omega),((fun q c=>by rcases Nat.lt_or_ge q j with h | h <;> first | exact aR q h | (rw [show q=j by omega]; exact sD (.inr (by simpa using aT))))),(am.trans aO),rfl,rfl,rfl,rfl,rfl,rfl,rfl,rfl,rfl⟩
 refine sk rfl rfl rfl rfl (sk rfl rfl rfl rfl (sk rfl rfl rfl rfl (sk rfl rfl rfl rfl (p (a7 rfl) (ag ((aZ _ _ (cf rfl ?_))))))))
 refine az (bn (tn (ar _ _ (rg rfl (p (ad rfl rfl (bw (by omega))) (p mv (nl (tn ?_))))))))
 exact ⟨_,by omega,j+1,(by omega),((fun q c=>by rcases Nat.lt_or_ge q j with h | h <;> first | exact aR q h | (rw [show q=j by omega]; exact sD (.inl (by simpa using aW))))),am,rfl,rfl,rfl,rfl,rfl,rfl,rfl,rfl,rfl⟩
 refine ext (te _ (te _ (be (tn (aI _ _ (aa (fun _ ar=>(ab (str (aV (r.getD 0 [])).1) ?_))))))))
 refine ab (.slice M set.length O) (p (bZ (ps:= [(0,str (aV (r.getD 0 [])).1),(1,.slice M set.length O)]) (L:= [str (aV (r.getD 0 [])).1,.slice M set.length O]) jF rfl (rfl)) (e (bC iM rfl rfl rfl rfl (Wk.B I hb68) (by simp) fun c3 a4 bM=>ae (((ar _ _ (rt (ee rfl (cW (cs:= [str (aV (r.getD 0 [])).1,.slice M set.length O]) rfl iy rfl (fun j C=>bM.bE j)) dB ?_))))))))
 exact ⟨.inl ⟨((aV (r.getD 0 [])).1,set),.slice M set.length O,sO J Z hby Y (by omega) (by simpa using ao) ap (fun j C=>aR j (by omega)),rfl,fV (bu (aE aq I) a4 (fun q c h=>by have :=(cM aq c).1; have :=A.size; omega)) (by have :=A.size; omega)⟩,(hE68x.trans I).trans' a4 (fun q c h=>by omega)⟩
end Go.Hb.kb
end
section
set_option maxRecDepth 20000
set_option maxHeartbeats 1000000
namespace Go.Hb.kQ
open Go.Hb.cG
open Go.Proofs
open Go.Hb.eJ Go.Hb.fg Go.Hb.fz Go.Hb.im Go.Hb.j8 Go.Hb.lP Go.Hb.jL Go.Hb.g5 Go.Hb.j9 Go.Hb.fG Go.Hb.jN Go.Hb.kb Go.Hb.jj Go.Hb.gP Go.Hb.mT Go.Hb.mQ Go.Hb.fZ Go.Hb.fN
theorem BZ:pA Tryz.prog 87 3=some (81,3):=by kernel_rfl
def iN (q:cE×Value):List Value:= [str q.1.1,q.2]
def gA (l:List (cE×Value)):List Value:=l.flatMap iN
theorem AJ (l:List (cE×Value)) (q:cE×Value):gA (l++ [q])=gA l++iN q:=by simp [gA]
theorem AK (l:List (cE×Value)):(gA l).length=l.length*2:=jW (f:=iN) (m:=2) (fun _=>rfl) l
theorem kF {w:World} {B e size n k:Nat} {v:Value} {xs:List Value} (h:World.ownsRow w B e size v n xs) (hk:v.ownBlock=some k) (c:∀ cur z,w.heap[k]?≠some (.cells cur e z)):False:=by
 rcases h.2 with ⟨rfl,rfl⟩ | ⟨g,cap,cur,rfl,_,hg,_⟩
 · cases hk
 · have a:g=k:=by simpa [Value.ownBlock] using hk
   subst a
   exact c _ _ hg
structure iu (w:World) (B:Nat) (f:Value→Option Value) (xs:List cE):Prop where
 own:∀ s:Tx,World.ownsRow w B 3 1 ((f (str s)).getD (Value.slice none 0 0)) (idxs s xs).length ((idxs s xs).map mR)
 nil:∀ s:Tx,idxs s xs= []→(f (str s)).getD (Value.slice none 0 0)=(Value.slice none 0 0)
theorem iu.md {G:Nat→Prop} {w w':World} {B:Nat} {f:Value→Option Value} {xs:List cE} (h:iu w B f xs) (hm:Md G w w') (a:∀ k,G k→∀ cur z,w.heap[k]?≠some (.cells cur 3 z)):iu w' B f xs:=by
 refine ⟨fun s=> ?_,h.nil⟩
 refine bu (h.own s) hm (fun k hk hg=> ?_)
 exact kF (h.own s) hk (fun cur z hc=>a k hg cur z hc)
theorem qm {w:World} {B j k n c:Nat} {v v':Value} {xs i:List Value} (h:World.ownsRow w B 3 1 v n xs) (A:World.ownsRow w j 3 1 v' c i) (hk:v.ownBlock=some k) (C:v'.ownBlock=some k) (hn:0 < n) (M:0 < c):xs[0]? =i[0]? :=by
 rcases h.2 with ⟨rfl,rfl⟩ | ⟨g,cap,cur,rfl,_,hg,_,_,_,E⟩
 · omega
 · rcases A.2 with ⟨rfl,rfl⟩ | ⟨s,I,J,rfl,_,a,_,_,_,G⟩
   · omega
   · have p:g=k:=by simpa [Value.ownBlock] using hk
     have q:s=k:=by simpa [Value.ownBlock] using C
     subst p q
     rw [hg] at a
     cases a
     rw [← E,← G,List.getElem?_take,List.getElem?_take,if_pos (by omega),if_pos (by omega)]
theorem iu.sep {w:World} {B k:Nat} {f:Value→Option Value} {xs:List cE} {s t:Tx} (h:iu w B f xs) (hne:s≠t) (hs:((f (str s)).getD (Value.slice none 0 0)).ownBlock=some k):((f (str t)).getD (Value.slice none 0 0)).ownBlock≠some k:=by
 intro a
 have p:idxs s xs≠[]:=fun e=>by rw [h.nil s e] at hs; cases hs
 have q:idxs t xs≠[]:=fun e=>by rw [h.nil t e] at a; cases a
 have he:=qm (h.own s) (h.own t) hs a (List.length_pos_iff.2 p) (List.length_pos_iff.2 q)
 cases h1:idxs s xs with
 | nil=>exact p h1
 | cons i l=>
   cases h2:idxs t xs with
   | nil=>exact q h2
   | cons j m=>
     rw [h1,h2] at he
     have A:i=j:=by have h:=he; simp only [List.map_cons,List.getElem?_cons_zero,Option.some.injEq,mR,Value.int.injEq,true_and] at h; omega
     subst A
     have m1:i∈idxs s xs:=by rw [h1]; simp
     have c:i∈idxs t xs:=by rw [h2]; simp
     unfold idxs at m1 c
     have q1:=of_decide_eq_true (List.mem_filter.1 m1).2
     have q2:=of_decide_eq_true (List.mem_filter.1 c).2
     exact hne (q1.symm.trans q2)
theorem iu.put {w w1 q:World} {B p:Nat} {f:Value→Option Value} {xs:List cE} {x:cE} {v:Value} (h:iu w B f xs) (hm:Md (fun k=>((f (str x.1)).getD (Value.slice none 0 0)).ownBlock=some k) w w1)
 (j:World.ownsRow w1 B 3 1 v (idxs x.1 xs++ [xs.length]).length ((idxs x.1 xs++ [xs.length]).map mR)) (i:∀ cur z,w1.heap[p]?≠some (.cells cur 3 z)) (c:Md (fun k=>k=p) w1 q):iu q B (aW f (str x.1) v) (xs++ [x]):=by
 refine ⟨fun s=> ?_,fun s hs=> ?_⟩
 · by_cases a:x.1=s
   · subst a
     rw [mx,pP,if_pos rfl]
     exact bu j c (fun k hk hg=>kF j hk (fun cur z hc=>i cur z (hg ▸ hc)))
   · rw [lB (fun e=>a (str_inj.1 e).symm),pP,if_neg a,List.append_nil]
     have h1:=bu (h.own s) hm (fun k hk hg=>h.sep a hg hk)
     exact bu h1 c (fun k hk hg=>kF h1 hk (fun cur z hc=>i cur z (hg ▸ hc)))
 · rw [pP] at hs
   by_cases a:x.1=s
   · rw [if_pos a] at hs; simp at hs
   · rw [if_neg a,List.append_nil] at hs
     rw [lB (fun e=>a (str_inj.1 e).symm)]; exact h.nil s hs
structure gO (w:World) (B wb mb:Nat) (va:Value) (vs:List Value) (xs:List cE):Prop where
 cells:w.heap[wb]? =some (.cells [va,.map (some mb)].toArray 108 (0,0))
 own:World.ownsRow w B 56 2 va xs.length (gA (xs.zip vs))
 fl:bO w B 71 vs (xs.map (·.2))
 mp:∃ f,bf w.heap mb ew f∧iu w B f xs
theorem gO.md {G:Nat→Prop} {w w':World} {B j a:Nat} {i:Value} {vs:List Value} {xs:List cE} (h:gO w B j a i vs xs) (hm:Md G w w') {L:List Nat} (hT:TF w L G) (c:(L.contains 110 || L.contains 58 || L.contains 73 || L.contains 5)=false) (q:¬G a):gO w' B j a i vs xs:=by
 simp only [Bool.or_eq_false_iff] at c
 obtain ⟨⟨⟨h1,h2⟩,h3⟩,h4⟩:=c
 obtain ⟨f,hf,p⟩:=h.mp
 exact ⟨hm.gR hT h.cells h1,ca h.own hm hT h2,h.fl.md hm (fun k hk cur z hg=>hT.no (cQ hg) h3 hk),⟨f,hf.md hm q,p.md hm (fun k hk cur z hg=>hT.no (cQ hg) h4 hk)⟩⟩
theorem gO.wk {w w':World} {B i a:Nat} {c:Value} {vs:List Value} {xs:List cE} (h:gO w B i a c vs xs) (hm:Wk w w'):gO w' B i a c vs xs:=h.md (L:= []) hm (fun _ hk=>hk.elim) rfl id
theorem Au {F:aB} {t:Tx} {ln:Nat} {row:List Tx} {rows:List Rw} (h:¬65536 < t.length) (h1:cg t=(ln,row)::rows) (h2:(gk row).2≠0):∃ e:Nat,(gk row).2=(e:Int)∧c9 F t= .error (ln,e):=by
 unfold gk at h2 ⊢
 by_cases hr:row.length≠1
 · rw [if_pos hr]; exact ⟨111,rfl,Ay h h1 hr⟩
 · rw [if_neg hr] at h2 ⊢
   have h3:=nT (s:=row.getD 0 []) (most:=8192) h2
   exact ⟨13,h3.2,AA h h1 (Classical.not_not.1 hr) h3.1⟩
theorem Av {F:aB} {t:Tx} {ln:Nat} {row:List Tx} {rows:List Rw} (h:¬65536 < t.length) (h1:cg t=(ln,row)::rows) (h2:(gk row).2=0):∃ n:Nat,(gk row).1=n∧n≤8192∧c9 F t=cz F ((aR t).length+1) n rows:=by
 unfold gk at h2 ⊢
 by_cases hr:row.length≠1
 · rw [if_pos hr] at h2; cases h2
 · rw [if_neg hr] at h2 ⊢
   exact ⟨_,rfl,by have :=p9 (row.getD 0 []) 8192 h2; omega,sE h h1 (Classical.not_not.1 hr) (nU h2)⟩
theorem vM {u:Tx} {a:Value} (h:a.oneCell'=true):[str u,a].all Value.oneCell'=true :=by rw [List.all_cons,List.all_cons,h]; rfl
def wW (l e:Nat):Value:= .agg [.int .i64 2,.int .i64 (l:Nat),.int .i64 (e:Nat)].toArray
def wU (w':World) (B0:Nat) (xs:List cE) (v:Value):Prop := ∃ B a c i vs,B0≤B∧v= .tuple #[.pointer (some ⟨a,0,none⟩),.agg [.int .i64 0,.int .i64 0,.int .i64 0].toArray]∧gO w' B a c i vs xs∧B0≤a∧B0≤c
def wT (e:Nat×Nat) (v:Value):Prop :=v= .tuple #[.pointer none,wW e.1 e.2]
def gr (F:aB) (t:Tx) (w:World) (v:Value) (w':World):Prop :=(match c9 F t with | .ok xs=>wU w' w.heap.size xs v | .error e=>wT e v)∧Wk w w'
theorem gr.no {F:aB} {t:Tx} {w w':World} {l e:Nat} (h:c9 F t= .error (l,e)) (hm:Wk w w'):gr F t w (.tuple #[.pointer none,.agg [.int .i64 2,.int .i64 (l:Nat),.int .i64 (e:Nat)].toArray]) w':=by
 unfold gr; rw [h]; exact ⟨rfl,hm⟩
theorem jV (B fb mc:Nat) (F:aB) (V:cR) (t:Tx) (w:World) (bP:bz w B fb mc F V) (c3:∃ seen,fE F [] seen) (hnx:Nx F) (hs:t.length≤1048576):
 aK Tryz.prog 11 (List.toArray [aU fb,str t]) w (gr F t w):=by
 refine enter Tryz.func11 rfl Tryz.ntmps11 rfl ?_
 refine aa (fun _ cc=>(p ak (e (fP eZ fun a7 w5 hb5 bR bK=> ?_))))
 have bI:a9 w5.heap a7 [.int .i64 0,.int .i64 0,.int .i64 0]:=⟨_,bK⟩
 refine ag ((cc _ _ (sq (fun _ co=>aa (fun _ ct=>(ab (aU fb) (p (fQ iY rfl rfl) (nl ?_))))))))
 refine tn (ct _ _ (cf (rfl) (az (tn (co _ _ (aa (fun _ cu=>(ab (str t) (e (cl rU (vC t _ hs) rfl fun eF bx dq=> ?_))))))))))
 obtain ⟨⟨ek,rfl,b1⟩,hE22⟩:=dq
 have hE22x:=bR.md.trans hE22
 have hz5:=bR.size
 refine p mv (p (xt rfl rfl) (p (xt rfl rfl) (p ak (ae (((cu _ _ (sq (fun _ cw=> ?_)))))))))
 refine aa (fun _ cx=>(p mv (p (dF rfl rfl) (ag ((cx _ _ (cd rfl (fun bs=> ?_) (fun bs=> ?_))))))))
 have bX:65536 < t.length:=Classical.byContradiction fun h=>bs (by rw [if_neg h])
 refine aa (fun _ a3=>(p mv (e (cl kZ (k4 0 (if 65536 < t.length then 10 else 0) bx) rfl fun eG w28 dr=> ?_))))
 obtain ⟨rfl,bc⟩:=dr
 have hz28:=(hE22.trans bc).size
 refine p ak (e (bC dz rfl rfl rfl rfl (Wk.B (hE22.trans bc) bI) (by simp) fun e0 dj c0=>ag ((a3 _ _ (rt (tr (ee rfl dB (cW (cs:= [.int .i64 2,.int .i64 0,.int .i64 (if 65536 < t.length then 10 else 0)]) rfl fO rfl (fun j ah=>c0.bE j)) ?_)))))))
 have h:=gr.no (F:=F) (sF bX) ((hE22x.trans bc).trans' dj (fun q A h=>by omega))
 show gr F t w (.tuple #[.pointer none,.agg [.int .i64 2,.int .i64 0,.int .i64 (if 65536 < t.length then 10 else 0)].toArray]) _
 rw [if_pos bX]
 exact h
 have aF:¬65536 < t.length:=fun h=>bs (by rw [if_pos h]; decide)
 rw [if_neg aF] at b1
 obtain ⟨ca,jU,rfl⟩:=db b1
 have hll:=iS t
 refine az (tn (cw _ _ (aa (fun _ a3=>(ab (str t) (e (cl rT (vj t _ hs) rfl fun eH w31 ds=> ?_)))))))
 obtain ⟨⟨el,rfl,hcs⟩,hE31⟩:=ds
 rw [if_neg aF] at hcs
 obtain ⟨cb,aV,aW⟩:=hcs
 obtain ⟨bB,aL,rfl⟩:=db aV
 have hE31x:=hE22x.trans hE31
 have hb5x:=Wk.B (hE22.trans hE31) bI
 have hz31:=(hE22.trans hE31).size
 have hrl:=vf t
 refine p mv (p (xt rfl rfl) (p (xt rfl rfl) (p ak (ae (((a3 _ _ (sq (fun _ cz=> ?_)))))))))
 refine aa (fun _ cA=>(p mv (p (bm oq rfl rfl) (p (ba rfl rfl) (ag ((cA _ _ (cd rfl (fun bt=> ?_) (fun bt=> ?_)))))))))
 have d0:cg t= []:=List.eq_nil_of_length_eq_zero (by omega)
 refine aa (fun _ aX=>(p mv (p (bm dI rfl rfl) (p (a8 (((aR t).length+1:Nat):Int) rfl rfl (aH (by omega) (by omega))) (e (cl kZ (k4 ((aR t).length+1:Nat) 116 w31) rfl fun eI eP dt=> ?_))))))
 obtain ⟨rfl,bd⟩:=dt
 have hz40:=bd.size
 exact p ak (e (bC dz rfl rfl rfl rfl (Wk.B bd hb5x) (by simp) fun e1 dk c1=>ag ((aX _ _ (rt (tr (ee rfl dB (cW (cs:= [.int .i64 2,U ((aR t).length+1),.int .i64 116]) rfl fO rfl (fun j ah=>c1.bE j)) (gr.no (Az aF d0) ((hE31x.trans bd).trans' dk (fun q A h=>by omega))))))))))
 obtain ⟨⟨ln0,ar⟩,rest,hrw⟩:∃ q rest,cg t=q::rest:=by
  cases h:cg t with
  | nil=>rw [h] at bt; exact absurd rfl bt
  | cons q rest=>exact ⟨q,rest,rfl⟩
 have hvl:=aW.1
 rw [hrw] at aV aW hvl hrl
 obtain ⟨⟨q1,q2⟩,rvs',rfl⟩:∃ q vs',cb=q::vs':=by
  cases cb with
  | nil=>exact absurd hvl (by simp)
  | cons q vs'=>exact ⟨q,vs',rfl⟩
 obtain ⟨hq1,hq2⟩:=aW.2 0 (q1,q2) (ln0,ar) rfl rfl
 obtain rfl :q1=ln0:=hq1
 obtain ⟨cB,cC,rfl⟩:=hq2.slice
 have hCr0:=(aA aV).2
 have hcr:=(aA aV).1
 have b3:∀ q∈(q1,ar)::rest,q.2.length≤70000∧∀ x∈q.2,x.length≤70000:=fun q A=>by
  have h:=vg (show q∈cg t by rw [hrw]; exact A)
  exact ⟨by omega,fun x ed=>by have :=(h.2.2.2.2 x ed).2; omega⟩
 have hm0:=b3 _ (List.mem_cons_self ..)
 simp only [List.length_cons] at hvl hrl hcr
 refine az (tn (cz _ _ (aa (fun _ aX=>(p mv (p (aG lf rfl rfl (by rw [hrw]; simp only [List.length_cons]; omega) (aj.ok (hCr0) (n2 (by simp)))) (p (da mY rfl (rfl) (n3 (i:=0) hCr0 rfl)) (e (cl yE (Aw q1 ar bx.heap.size cB cC w31 hq2 hm0.2 hm0.1) rfl fun eJ w45 du=> ?_)))))))))
 obtain ⟨rfl,hE45⟩:=du
 have hz45:=hE45.size
 refine p mv (p (xt rfl rfl) (p (xt rfl rfl) (p ak (ae (((aX _ _ (sq (fun _ ce=> ?_)))))))))
 refine aa (fun _ ch=>(p mv (p (dF rfl rfl) (ag ((ch _ _ (cd rfl (fun b0=> ?_) (fun b0=> ?_))))))))
 obtain ⟨es,dT,bq⟩:=Au (F:=F) aF hrw b0
 refine aa (fun _ aY=>(p mv (p (aG lf rfl rfl (by rw [hrw]; simp only [List.length_cons]; omega) (aj.ok (hCr0.wk hE45) (n2 (by simp)))) (p (fa nD rfl) (p (ld cX rfl (n3 (i:=0) (hCr0.wk hE45) rfl 0 (by decide))) (p mv (e (cl kZ (k4 (q1:Nat) (gk ar).2 w45) rfl fun eK eQ dv=> ?_))))))))
 obtain ⟨rfl,bg⟩:=dv
 have hz55:=bg.size
 refine p ak (e (bC dz rfl rfl rfl rfl (Wk.B (hE45.trans bg) hb5x) (by simp) fun eU df cH=>ag ((aY _ _ (rt (tr (ee rfl dB (cW (cs:= [.int .i64 2,U q1,.int .i64 (gk ar).2]) rfl fO rfl (fun j ah=>cH.bE j)) ?_)))))))
 have h:=gr.no bq ((hE31x.trans (hE45.trans bg)).trans' df (fun q A h=>by omega))
 show gr F t w (.tuple #[.pointer none,.agg [.int .i64 2,U q1,.int .i64 (gk ar).2].toArray]) _
 rw [dT]
 exact h
 obtain ⟨n,hn0,eA,bq⟩:=Av (F:=F) aF hrw (show (gk ar).2=0 by omega)
 have hFB:=bP.wk (hE31x.trans hE45)
 obtain ⟨seen,bL⟩:=c3
 have hbl:=bL.len
 refine az (tn (ce _ _ (aa (fun _ aY=>(e (mj fun J w56 ev bo cY=> ?_))))))
 have hz56:=bo.size
 refine p (bZ (ps:= [(1,.map (some J))]) (L:= [.slice none 0 0,.map (some J)]) FM rfl (rfl)) (e (oK rfl fun C w58 ex aT cZ=> ?_))
 have hz58:=aT.size
 have hE58:=hE45.trans (bo.md.trans aT.md)
 refine ae (((aY _ _ (aa (fun _ ci=>(ab (aU fb) (e (cl yF (xk B fb mc F V w58 (hFB.wk (bo.md.trans aT.md)) (by omega) hnx) rfl fun eL w60 dw=> ?_))))))))
 obtain ⟨⟨ej,rfl,_⟩,hE60⟩:=dw
 have hz60:=hE60.size
 refine p (BG BZ q6 rfl rfl) (e (al GN fun a5 w12 hb12 aQ cI=> ?_))
 have hz12:=aQ.size
 refine e (bC Af rfl rfl rfl rfl (cI) (by simp) fun wt13_4 aO cJ=> ?_)
 have c8:Wk w31 wt13_4:=(hE58.trans (hE60.trans aQ.md)).trans' aO (fun q A h=>by omega)
 have hz13:=aO.size
 have dN:wt13_4.heap[C]? =some (.cells [.slice none 0 0,.map (some J)].toArray 108 (0,0)):=aO.au (Wk.au (hE60.trans aQ.md) cZ) (fun h=>by omega)
 have dW:bf wt13_4.heap J ew (fun _=>none):=bf.md (bf.wk (bf.nil cY) (aT.md.trans (hE60.trans aQ.md))) aO (fun h=>by omega)
 have dH:gO wt13_4 wt13_4.heap.size C J (.slice none 0 0) [] []:=⟨dN,World.ownsRow_nil _ _ _ _,bO.nil _ _ _,⟨_,dW,⟨fun s=>World.ownsRow_nil _ _ _ _,fun s _=>rfl⟩⟩⟩
 have dL:a9 wt13_4.heap a5 [ay (F.sp.getD 0 0),ay (F.sp.getD 1 0),ay (F.sp.getD 2 0),ay (F.sp.getD 3 0),ay (F.sp.getD 4 0)]:=cJ
 have bM:aj w31.heap (dd bB aL 1 2) (gJ rvs'):=by
  have h:=hCr0.drop (cap:=aL) (k:=1) (size:=2) (by rw [vm]; simp only [List.length_cons]; omega)
  exact h
 have dK:eB F ((aR t).length+1) (c9 F t) [] (n - 0) (rest.drop 0):=by rw [bq]; exact eB.start
 refine ag ((ci _ _ (sq (fun _ cj=>aa (fun _ ck=>(p mv (p (mD lf rfl rfl (by rw [hrw]; simp only [List.length_cons]; omega)) (p (bm oq rfl rfl) ?_))))))))
 refine p mv (ag ((ck _ _ (au (lp (fun bG O wI=> ∃ (i:Nat) (xs:List cE) (vs:List Value) (ai:Value),(i≤rest.length∧i≤n)∧(xs.length=i)∧(eB F ((aR t).length+1) (c9 F t) xs (n - i) (rest.drop i))∧(gO wI wt13_4.heap.size C J ai vs xs)∧(Wk w31 wI)∧(a9 wI.heap a5 [ay (F.sp.getD 0 0),ay (F.sp.getD 1 0),ay (F.sp.getD 2 0),ay (F.sp.getD 3 0),ay (F.sp.getD 4 0)])∧(wt13_4.heap.size≤wI.heap.size)∧(O 0=aU fb)∧(O 5=aU a7)∧(O 6= .slice ca (aR t).length jU)∧(O 10=U n)∧(O 11=aU C)∧(O 12=aU a5)∧(O 63= .slice (dd bB aL 1 2) rest.length (aL - 1))∧(O 64=U (rest.length))∧(O 65=U i)∧(rest.length - i=bG)) _ ⟨0,[],[],.slice none 0 0,(by omega),rfl,dK,dH,c8,dL,(Nat.le_refl _),rfl,rfl,rfl,(by first | rfl | (rw [← hn0]; rfl)),rfl,rfl,(by first | rfl | (rw [hrw]; rfl)),(by first | rfl | (rw [hrw]; rfl)),rfl,rfl⟩ ?_)))))
 rintro bG O wI ⟨i,xs,vs,ai,hi,hxl,Y,ax,I,bV,eC,d4,d8,d9,d5,d6,d7,ea,eb,ec,rfl⟩
 refine fx 0 d4 (fx 5 d8 (fx 6 d9 (fx 10 d5 (fx 11 d6 (fx 12 d7 (fx 63 ea (fx 64 eb (fx 65 ec (aa (fun _ cm=>(p (lt rfl rfl) (ag ((cm _ _ (sq (fun _ cn=>cd rfl (fun dP=> ?_) (fun dP=> ?_)))))))))))))))))
 refine az (tn (cn _ _ (sq (fun _ aZ=>au (sq (fun _ a0=> ?_))))))
 obtain ⟨⟨ln,r⟩,hri⟩:∃ q,rest[i]? =some q:=⟨_,List.getElem?_eq_getElem (by omega)⟩
 have dS:rest.drop i=(ln,r)::rest.drop (i+1):=by rw [List.drop_eq_getElem_cons (by omega)]; rw [List.getElem?_eq_getElem (by omega)] at hri; rw [Option.some.inj hri]
 obtain ⟨p,b9⟩:∃ p,rvs'[i]? =some p:=⟨_,List.getElem?_eq_getElem (by omega)⟩
 obtain ⟨cD,bU⟩:=aW.2 (i+1) p (ln,r) b9 hri
 obtain ⟨ln0x,eD⟩:=p
 obtain rfl :ln=ln0x:=cD.symm
 obtain ⟨a,c,rfl⟩:=bU.slice
 have hmr:=b3 (ln,r) (List.mem_cons_of_mem _ (List.mem_of_getElem? hri))
 rw [dS] at Y
 refine rg rfl (ab (U i) (p (aG lf rfl rfl (by omega) (aj.ok (bM.wk I) (n2 (by omega)))) (p (da mY rfl (rfl) (n3 (bM.wk I) b9)) (e (al wx fun bD w14 hb14 bl cL=> ?_)))))
 have hz14:=bl.size
 refine p (bA (U i) rfl) (e (bC sj rfl rfl rfl rfl (cL) (by simp) fun wt16_5 bk cN=> ?_))
 have aN:Wk w31 wt16_5:=(I.trans bl.md).trans' bk (fun q A h=>by omega)
 have bN:Wk wI wt16_5:=bl.md.trans' bk (fun q A h=>by omega)
 have hb14:a9 wt16_5.heap bD [U ln,.slice a r.length c]:=cN
 have hz16:=bk.size
 refine ag ((a0 _ _ (sq (fun _ aC=>aa (fun _ cp=>(ab (U i) (ab (U n) (p (ba rfl rfl) ?_))))))))
 refine ag ((cp _ _ (cd rfl (fun dQ=> ?_) (fun dQ=> ?_))))
 refine aa (fun _ a1=>(p (fa nD rfl) (p (ld cX rfl ((hb14.aw 0).trans rfl)) (e (cl kZ (k4 (ln:Nat) 116 wt16_5) rfl fun eM eR dy=> ?_)))))
 obtain ⟨rfl,bh⟩:=dy
 have hz75:=bh.size
 refine p ak (e (bC dz rfl rfl rfl rfl (Wk.B (aN.trans bh) hb5x) (by simp) fun eV dg cO=>ag ((a1 _ _ (rt (tr (br (tr ?_))))))))
 refine tr (br (tr (ee rfl dB (cW (cs:= [.int .i64 2,U ln,.int .i64 116]) rfl fO rfl (fun j ah=>cO.bE j)) ?_)))
 rw [show n - i=0 by omega] at Y
 exact gr.no Y.more ((hE31x.trans (aN.trans bh)).trans' dg (fun q A h=>by omega))
 refine az (tn (aC _ _ (aa (fun _ a1=>(ab (aU fb) (p (da q6 rfl (rfl) (fun j ah=>(Wk.B bN bV).bE j)) (p (da mY rfl (rfl) (fun j ah=>hb14.bE j)) (e (cl yG (Ar B fb mc F V ln r bx.heap.size a c wt16_5 (bP.wk (hE31x.trans aN)) ⟨seen,bL⟩ (bU.wk aN) hmr.2 hmr.1) rfl fun eh ei dA=> ?_)))))))))
 obtain ⟨de,bi⟩:=dA
 obtain ⟨c7,aD,bF,rfl,b8,b2⟩:∃ (u:Tx) (a:Value) (e:Nat),eh= .tuple #[.agg [str u,a].toArray,U e]∧a.oneCell'=true∧((e=0∧∃ l,dV F r= .ok (u,l)∧World.ownsRow ei wt16_5.heap.size 71 1 a l.length (l.map ay))∨(e≠0∧dV F r= .error e)):=by
  rcases de with ⟨x,a,h1,h2,h3⟩ | ⟨e,h1,h2,h3⟩
  exact ⟨x.1,a,0,h2,dx h3,.inl ⟨rfl,x.2,h1,h3⟩⟩
  exact ⟨_,_,e,h3,rfl,.inr ⟨h2,h1⟩⟩
 have hz80:=bi.size
 refine p mv (p (xt rfl rfl) (p (xt rfl rfl) (e (fP wz fun a6 w15 eu aS bH=> ?_))))
 have hz15:=aS.size
 refine e (fY iM rfl rfl rfl (vM b8) bH (by decide) fun w19 aP cP=> ?_)
 have av:Wk wI w19:=(bN.trans (bi.trans aS.md)).trans' aP (fun q A h=>by omega)
 have bW:w19.heap[a6]? =some (.cells [str c7,aD].toArray 56 (0,0)):=cP
 have hz19:=aP.size
 have dM:a9 w19.heap bD [U ln,.slice a r.length c]:=aP.B (Wk.B (bi.trans aS.md) hb14) (fun h=>by omega)
 refine ae (((a1 _ _ (sq (fun _ cq=>aa (fun _ cr=>(p mv (p (dF rfl rfl) ?_))))))))
 refine ag ((cr _ _ (cd rfl (fun dR=> ?_) (fun dR=> ?_))))
 obtain ⟨hne,hex⟩:=b2.resolve_left (fun h=>by omega)
 refine aa (fun _ a2=>(p (fa nD rfl) (p (ld cX rfl ((dM.aw 0).trans rfl)) (p mv (e (cl kZ (k4 (ln:Nat) (bF:Nat) w19) rfl fun eN eT dC=> ?_))))))
 obtain ⟨rfl,bj⟩:=dC
 have hz88:=bj.size
 refine p ak (e (bC dz rfl rfl rfl rfl (Wk.B (I.trans (av.trans bj)) hb5x) (by simp) fun eW dh cS=>ag ((a2 _ _ (rt (tr (br (tr ?_))))))))
 exact tr (br (tr (ee rfl dB (cW (cs:= [.int .i64 2,U ln,U bF]) rfl fO rfl (fun j ah=>cS.bE j)) (gr.no (Y.bad (by omega) hex) ((hE31x.trans (I.trans (av.trans bj))).trans' dh (fun q A h=>by omega))))))
 obtain ⟨_,aq,hex,d2⟩:=b2.resolve_right (fun h=>by omega)
 have hW19:=ax.wk av
 have dY:¬(ai.ownBlock=some C):=cy hW19.own hW19.cells (by decide)
 have dX:¬(ai.ownBlock=some a6):=fun h=>by have :=(cM ax.own h).2; omega
 have hzw:=av.size
 refine az (tn (cq _ _ (sq (fun _ a2=> ?_))))
 have an:(fun w'=>Md (fun q=>ai.ownBlock=some q) w19 w') w19.drew:=(Md.refl _ _).drew
 refine c5 (fun w'=>Md (fun q=>ai.ownBlock=some q) w19 w') 10 rfl wide an (aI 0 rfl (aU C) an (aI 1 rfl (aU C) an (a4 2 rfl (fun _=>nc rfl) (fun _=>an) (a4 3 rfl (fun _=>fa l7 rfl) (fun _=>an) (cK 4 rfl (fun w' G=>ld mZ rfl (Md.aw G ((aM hW19.cells).trans rfl) dY)) an (cK 5 rfl (fun w' G=>da iy rfl (rfl) (fun j ah=>a9.bE ⟨_,Md.au G bW dX⟩ j)) an (fK 6 rfl (by kernel_rfl) (kr n8 rfl rfl rfl fun eo w95 ey dm c2=> ?_))))))))
 have hE95:=eS dm.md
 have hW95:=hW19.wk hE95
 have hz95:=hE95.size
 have bS:(fun w'=>Md (fun q=>ai.ownBlock=some q) w19 w') w95:=Md.mono hE95 (fun _ _ h=>h.elim)
 refine ⟨bS,?_⟩
 refine fK 7 rfl (by kernel_rfl) (ap n8 (hW95.own) rfl (by omega) rfl (aj.dZ c2) (rfl) (vM b8) (by omega) (by omega) fun aJ w96 b6 M hz96 ez=> ?_)
 obtain ⟨f,hf,dU⟩:=hW95.mp
 have hc96:=M.au hW95.cells (cy hW95.own hW95.cells (by decide))
 have b7:World.ownsRow w96 wt13_4.heap.size 56 2 aJ (xs++ [(c7,aq)]).length (gA ((xs++ [(c7,aq)]).zip (vs++ [aD]))):=by
  have hl:xs.length=vs.length:=by have :=hW95.fl.1; rw [List.length_map] at this; omega
  rw [List.zip_append hl,List.zip_cons_cons,List.zip_nil_right,AJ,List.length_append]; exact b6
 have hz96:=M.size
 have hb12q:=M.B (Wk.B (av.trans hE95) bV) (fun h=>by have :=(cM hW95.own h).1; omega)
 have hb15q:=M.au (Wk.au hE95 bW) (fun h=>by have :=(cM ax.own h).2; omega)
 have hE96:Wk w31 w96:=(I.trans (av.trans hE95)).trans' M (fun q A h=>by have :=(cM hW95.own h).1; omega)
 have bp:(fun w'=>Md (fun q=>ai.ownBlock=some q) w19 w') w96:=bS.trans' M (fun _ _ h=>h)
 refine ⟨bp,?_⟩
 refine a4 8 rfl (fun _=>nc rfl) (fun _=>bp) (a4 9 rfl (fun _=>fa l7 rfl) (fun _=>bp) (bJ 10 rfl (by kernel_rfl) (by kernel_rfl) (cV Ac rfl rfl (v:=aJ) (dx b6) hc96 (by show _ < 2; omega) fun w10 Z cF=> ?_)))
 have hc10:w10.heap[C]? =some (.cells [aJ,.map (some J)].toArray 108 (0,0)):=cF
 have hz10:=Z.size
 have c6:Wk w31 w10:=hE96.trans' Z (fun q A h=>by omega)
 have hb12r:=Z.B hb12q (fun h=>by omega)
 have hb15r:=Z.au hb15q (fun h=>by omega)
 have ho10x:=bu b7 Z (fun q A h=>cy b7 hc96 (by decide) (h ▸ A))
 have dE:Tg w10 wt13_4.heap.size 71 aq.length aD (aq.map ay):=((((((Tg.fU d2).mono (by omega)).wk aS.md).md aP (ep bH (by decide))).wk hE95).md M (e9 hW95.own (by decide))).md Z (ep hc96 (by decide))
 have hfl10:=(((hW95.fl.md M (e9 hW95.own (by decide))).md Z (ep hc96 (by decide))).snoc dE)
 have hf10:=(hf.md M (fun h=>kF hW95.own h (fun cur z=>hf.jy))).md Z (fun h=>by omega)
 have hfm10:=(dU.md M (e9 hW95.own (by decide))).md Z (ep hc96 (by decide))
 have bv:¬(((f (str c7)).getD (Value.slice none 0 0)).ownBlock=some C):=cy (hfm10.own c7) hc10 (by decide)
 have b4:¬(((f (str c7)).getD (Value.slice none 0 0)).ownBlock=some a6):=cy (hfm10.own c7) hb15r (by decide)
 have b5:¬(((f (str c7)).getD (Value.slice none 0 0)).ownBlock=some J):=fun h=>kF (hfm10.own c7) h (fun cur z=>hf10.jy)
 refine c4 (by kernel_rfl) ?_
 refine tn (a2 _ _ ?_)
 have E:(fun w'=>Md (fun q=>((f (str c7)).getD (Value.slice none 0 0)).ownBlock=some q) w10 w') w10.drew:=(Md.refl _ _).drew
 refine c5 (fun w'=>Md (fun q=>((f (str c7)).getD (Value.slice none 0 0)).ownBlock=some q) w10 w') 16 rfl wide E (lq 0 rfl (by kernel_rfl) (fun _ _=>ao (aU C) rfl) E (lq 1 rfl (by kernel_rfl) (fun _ _=>nc rfl) E (lq 2 rfl (by kernel_rfl) (fun _ _=>fa tk rfl) E (lq 3 rfl (by kernel_rfl) (fun w' G=>ld qY rfl (Md.aw G ((aM hc10).trans rfl) bv)) E (lq 4 rfl (by kernel_rfl) (fun _ _=>fa nI rfl) E (lq 5 rfl (by kernel_rfl) (fun w' G=>ld bY rfl (Md.aw G ((aM hb15r).trans rfl) b4)) E (lq 6 rfl (by kernel_rfl) (fun _ _=>ao (aU C) rfl) E ?_)))))))
 refine lq 7 rfl (by kernel_rfl) (fun _ _=>nc rfl) E (lq 8 rfl (by kernel_rfl) (fun _ _=>fa tk rfl) E (lq 9 rfl (by kernel_rfl) (fun w' G=>ld qY rfl (Md.aw G ((aM hc10).trans rfl) bv)) E (lq 10 rfl (by kernel_rfl) (fun _ _=>fa nI rfl) E (lq 11 rfl (by kernel_rfl) (fun w' G=>ld bY rfl (Md.aw G ((aM hb15r).trans rfl) b4)) E (lq 12 rfl (by kernel_rfl) (fun w' G=>iT vN GU ef (bf.md (hf10) G b5) rfl rfl (⟨_,rfl⟩) (rfl)) E (lq 13 rfl (by kernel_rfl) (fun _ _=>ao (U i) rfl) E (fK 14 rfl (by kernel_rfl) (gh oa rfl rfl fun en w113 et dl cG=> ?_))))))))
 have hE113:=eS dl.md
 have hfm113:=hfm10.md hE113 (fun _ hk=>hk.elim)
 have hz113:=hE113.size
 have bT:(fun w'=>Md (fun q=>((f (str c7)).getD (Value.slice none 0 0)).ownBlock=some q) w10 w') w113:=Md.mono hE113 (fun _ _ h=>h.elim)
 refine ⟨bT,?_⟩
 refine fK 15 rfl (by kernel_rfl) (ap oa (hfm113.own c7) rfl (by omega) rfl (aj.dZ cG) (rfl) (rfl) (by have :=tP c7 xs; omega) (by have :=tP c7 xs; omega) fun eg w114 d1 ac hz114 hf114=> ?_)
 have hz114:=ac.size
 have hf114:=(hf10.wk hE113).md ac b5
 have d3:World.ownsRow w114 wt13_4.heap.size 3 1 eg (idxs c7 xs++ [xs.length]).length ((idxs c7 xs++ [xs.length]).map mR):=by
  rw [List.length_append,List.map_append,hxl]; exact d1
 have dD:(fun w'=>Md (fun q=>((f (str c7)).getD (Value.slice none 0 0)).ownBlock=some q) w10 w') w114:=bT.trans' ac (fun _ _ h=>h)
 refine ⟨dD,?_⟩
 refine bJ 16 rfl (by kernel_rfl) (by kernel_rfl) (lI vN ef (hf114) rfl rfl rfl (⟨_,rfl⟩) fun wm23_16 am dn=> ?_)
 have hput:=iu.put (x:=(c7,aq)) hfm113 ac d3 (fun cur z=>hf114.jy) am
 have hc23:=am.au (ac.au (Wk.au hE113 hc10) bv) (fun h=>by omega)
 have ho114y:=bu (aE ho10x hE113) ac (fun q A=>ib (aE ho10x hE113) (hfm113.own c7) (by decide) A)
 have ho23:=bu ho114y am (fun q A h=>kF ho114y A (fun cur z=>h ▸ hf114.jy))
 have hfl23:=((hfl10.wk hE113).md ac (e9 (hfm113.own c7) (by decide))).md am (fun k hk cur z h=>hf114.jy (hk ▸ h))
 have dJ:gO wm23_16 wt13_4.heap.size C J aJ (vs++ [aD]) (xs++ [(c7,aq)]):=⟨hc23,ho23,by rw [List.map_append]; exact hfl23,⟨_,dn,hput⟩⟩
 have dc:Wk w31 wm23_16:=((c6.trans hE113).trans' ac (fun q A h=>by have :=(cM (hfm113.own c7) h).1; omega)).trans' am (fun q A h=>by omega)
 have hb12s:=am.B (ac.B (Wk.B hE113 hb12r) (fun h=>by have :=(cM (hfm113.own c7) h).1; omega)) (fun h=>by omega)
 have hz23:=am.size
 refine c4 (by kernel_rfl) ?_
 exact bn (tn (aZ _ _ (rg rfl (p (ad rfl rfl (bw (by omega))) (p mv (ag ((⟨_,by omega,i+1,xs++ [(c7,aq)],vs++ [aD],aJ,(by omega),((by rw [List.length_append,hxl]; rfl)),((by rw [show n - (i+1)=n - i - 1 by omega]; exact Y.step (by omega) hex)),dJ,dc,hb12s,((by omega)),rfl,rfl,rfl,(by first | rfl | (rw [← hn0]; rfl)),rfl,rfl,(by first | rfl | (rw [hrw]; rfl)),(by first | rfl | (rw [hrw]; rfl)),rfl,rfl⟩))))))))
 refine ext (te _ (te _ (be (tn (cj _ _ (sq (fun _ aZ=>sq (fun _ a0=> ?_))))))))
 obtain ⟨em,cv,rfl⟩:=db ax.own
 refine rg rfl (ab (aU C) (p (nc rfl) (p (fa l7 rfl) (p (ld mZ rfl ((aM ax.cells).trans rfl)) (p (bm mI rfl rfl) (ab (U n) (p (lt rfl rfl) ?_)))))))
 refine ag ((a0 _ _ (cd rfl (fun dO=> ?_) (fun dO=> ?_))))
 refine aa (fun _ aC=>(ab (.slice ca (aR t).length jU) (p (bm dI rfl rfl) (p (a8 (((aR t).length+1:Nat):Int) rfl rfl (aH (by omega) (by omega))) (e (cl kZ (k4 ((aR t).length+1:Nat) 116 wI) rfl fun eE eO dp=> ?_))))))
 obtain ⟨rfl,bb⟩:=dp
 have hz126:=bb.size
 refine p ak (e (bC dz rfl rfl rfl rfl (Wk.B (I.trans bb) hb5x) (by simp) fun eX di cT=>ag ((aC _ _ (rt (tr (ee rfl dB (cW (cs:= [.int .i64 2,U ((aR t).length+1),.int .i64 116]) rfl fO rfl (fun j ah=>cT.bE j)) ?_)))))))
 rw [List.drop_eq_nil_of_le (by omega)] at Y
 exact gr.no (Y.ends (by omega)) ((hE31x.trans (I.trans bb)).trans' di (fun q A h=>by omega))
 refine az (tn (aZ _ _ (aa (fun _ aC=>(ab (aU C) (p (bZ (ps:= []) (L:= [.int .i64 0,.int .i64 0,.int .i64 0]) kJ rfl (rfl)) (p (bA (aU C) rfl) (e (bC dz rfl rfl rfl rfl (Wk.B I hb5x) (by simp) fun eY bQ cU=> ?_)))))))))
 refine ag ((aC _ _ (rt (ee rfl dB (cW (cs:= [.int .i64 0,.int .i64 0,.int .i64 0]) rfl fO rfl (fun j ah=>cU.bE j)) ?_))))
 rw [List.drop_eq_nil_of_le (by omega),show n - i=0 by omega] at Y
 have hX:=Y.done
 have dG:TF wI [27] (fun q=>q=a7):=TF.eq (cQ (Wk.au (hE22.trans (hE31.trans I)) bK)) (by decide)
 unfold gr
 rw [hX]
 exact ⟨⟨wt13_4.heap.size,C,J,_,vs,by omega,rfl,ax.md bQ dG (by decide) (fun h=>by omega),by omega,by omega⟩,(hE31x.trans I).trans' bQ (fun q A h=>by omega)⟩
end Go.Hb.kQ
end
section
set_option maxRecDepth 20000
set_option maxHeartbeats 1000000
namespace Go.Hb.mP
open Go.Hb.cG
open Go.Proofs
open Go.Hb.eJ Go.Hb.fg Go.Hb.fz Go.Hb.jL Go.Hb.g5 Go.Hb.fG Go.Hb.jN Go.Hb.kb Go.Hb.kQ
theorem GH {α:Type} {f:α×Value→List Value} {m c i:Nat} (hf:∀ q,(f q).length=m) (hc:c < m) (hs:∀ a u v,(f (a,u)).set c v=f (a,v)) {rs:List α} {vs:List Value} {v:Value} (hi:i < rs.length) (hv:i < vs.length):((rs.zip vs).flatMap f).set (i*m+c) v=(rs.zip (vs.set i v)).flatMap f:=by
 obtain ⟨r,hr⟩:∃ r,rs[i]? =some r:=⟨_,List.getElem?_eq_getElem hi⟩
 obtain ⟨u,hu⟩:∃ u,vs[i]? =some u:=⟨_,List.getElem?_eq_getElem hv⟩
 have hz:(rs.zip vs)[i]? =some (r,u):=List.getElem?_zip_eq_some.2 ⟨hr,hu⟩
 have hz2:rs.zip (vs.set i v)=(rs.zip vs).set i (r,v):=by
  apply List.ext_getElem?
  intro j
  rw [List.getElem?_set]
  by_cases p:i=j
  · subst p
    rw [if_pos rfl,if_pos (List.getElem?_eq_some_iff.1 hz).1]
    exact List.getElem?_zip_eq_some.2 ⟨hr,by simp [hv]⟩
  · rw [if_neg p]
    cases h1:(rs.zip vs)[j]? with
    | none=>
      rw [List.getElem?_eq_none_iff,List.length_zip] at h1 ⊢
      rw [List.length_set]; exact h1
    | some q=>
      have h2:=List.getElem?_zip_eq_some.1 h1
      exact List.getElem?_zip_eq_some.2 ⟨h2.1,by rw [List.getElem?_set,if_neg p]; exact h2.2⟩
 have hl:(rs.zip vs).length=min rs.length vs.length:=List.length_zip
 have hcl:((rs.zip vs).flatMap f).length=(rs.zip vs).length*m:=jW hf _
 have hle:i*m+m≤(rs.zip vs).length*m:=by rw [← Nat.succ_mul]; exact Nat.mul_le_mul_right _ (by omega)
 rw [hz2,th hf _ (by omega)]
 apply List.ext_getElem?
 intro j
 have hg:=fun c hc=>pC hf (c:=c) hz hc
 have htl:(((rs.zip vs).flatMap f).take (i*m)).length=i*m:=by rw [List.length_take,hcl]; omega
 rw [List.getElem?_set]
 by_cases h1:j < i*m
 · rw [if_neg (by omega),List.append_assoc,List.getElem?_append_left (by omega),List.getElem?_take,if_pos h1]
 · rw [List.append_assoc,List.getElem?_append_right (by omega),htl]
   by_cases h2:j < i*m+m
   · rw [List.getElem?_append_left (by rw [hf]; omega)]
     obtain ⟨d,rfl⟩:∃ d,j=i*m+d:=⟨j - i*m,by omega⟩
     rw [hg d (by omega),show i*m+d - i*m=d by omega,← hs r u v,List.getElem?_set]
     by_cases h3:c=d
     · subst h3; rw [if_pos rfl,if_pos rfl,if_pos (by rw [hcl]; omega),if_pos (by rw [hf]; exact hc)]
     · rw [if_neg (by omega),if_neg h3]
   · rw [if_neg (by omega),List.getElem?_append_right (by rw [hf]; omega),hf,List.getElem?_drop]
     congr 1; omega
theorem AS {xs:List cE} {vs:List Value} {i:Nat} {v:Value} (hi:i < xs.length) (hv:i < vs.length):(gA (xs.zip vs)).set (i*2 +1) v=gA (xs.zip (vs.set i v)):=GH (f:=iN) (m:=2) (c:=1) (fun _=>rfl) (by decide) (fun _ _ _=>rfl) hi hv
theorem k8 {l:List (cE×Value)} {i:Nat} {q:cE×Value} (h:l[i]? =some q):gA l≠[]:=fun h2=>by
 have h3:=AK l
 have h4:=(List.getElem?_eq_some_iff.1 h).1
 rw [h2] at h3
 have h5:0=l.length*2:=h3
 omega
theorem AR {w:World} {B e:Nat} {xs:List cE} {vs:List Value} {ls:List (List Nat)} (h:bO w B e vs ls):(gA (xs.zip vs)).all Value.oneCell'=true :=by
 rw [List.all_eq_true]
 intro v hv
 obtain ⟨q,a,hv⟩:=List.mem_flatMap.1 hv
 have h1:=List.all_eq_true.1 (oH h) q.2 (List.of_mem_zip a).2
 simp only [iN,List.mem_cons,List.not_mem_nil,or_false] at hv
 rcases hv with rfl | rfl
 · rfl
 · exact h1
def jh (w:World) (B:Nat) (vs:List Value) (ls:List (List Nat)):Prop :=vs.length=ls.length∧∀ (i:Nat) v l,vs[i]? =some v→ls[i]? =some l→World.ownsRow w B 71 1 v l.length (l.map ay)
theorem jh.t {w:World} {B:Nat} {vs:List Value} {ls:List (List Nat)} (h:jh w B vs ls):bO w B 71 vs ls:=⟨h.1,fun i v l h1 h2=>Tg.fU (h.2 i v l h1 h2)⟩
theorem rh {G:Nat→Prop} {w w':World} {B:Nat} {vs:List Value} {ls:List (List Nat)} (h:jh w B vs ls) (hm:Md G w w') (a:∀ k,G k→∀ cur z,w.heap[k]?≠some (.cells cur 71 z)):jh w' B vs ls:=⟨h.1,fun i v l h1 h2=>bu (h.2 i v l h1 h2) hm (fun k hk hg=>kF (h.2 i v l h1 h2) hk (a k hg))⟩
theorem xu (w:World) (B:Nat):jh w B [] []:=⟨rfl,fun i v l hv=>by simp at hv⟩
theorem xr {w:World} {B i:Nat} {vs:List Value} {ls:List (List Nat)} {v:Value} (h:jh w B (vs.take i) (ls.take i)) (hi:i < ls.length) (hv:i < vs.length) (p:World.ownsRow w B 71 1 v (ls.getD i []).length ((ls.getD i []).map ay)):jh w B ((vs.set i v).take (i+1)) (ls.take (i+1)):=by
 refine ⟨by simp; have :=h.1; simp at this; omega,fun j u l h1 h2=> ?_⟩
 rw [List.getElem?_take] at h1 h2
 by_cases a:j < i+1
 · rw [if_pos a] at h1 h2
   rw [List.getElem?_set] at h1
   by_cases c:i=j
   · subst c
     rw [if_pos rfl,if_pos hv] at h1
     cases h1
     rw [show ls.getD i []=l by rw [List.getD_eq_getElem?_getD,h2]; rfl] at p
     exact p
   · rw [if_neg c] at h1
     exact h.2 j u l (by rw [List.getElem?_take,if_pos (by omega)]; exact h1) (by rw [List.getElem?_take,if_pos (by omega)]; exact h2)
 · rw [if_neg a] at h1; cases h1
theorem AE (B i E:Nat) (G:Value) (vs:List Value) (xs:List cE) (w:World) (j:gO w B i E G vs xs) (I:xs.length≤70000):
 aK Tryz.prog 17 (List.toArray [aU i]) w (fun v w'=>v=U (xs.length)∧Wk w w'):=by
 obtain ⟨a,c,rfl⟩:=db j.own
 refine enter Tryz.func17 rfl Tryz.ntmps17 rfl ?_
 refine aa (fun _ q=>(ae (((q _ _ (sq (fun _ s=>aa (fun _ A=> ?_))))))))
 refine ab (aU i) (p (fQ lG rfl rfl) (ag ((A _ _ (cf (rfl) (az (tn (s _ _ (sq (fun _ C=> ?_))))))))))
 refine rg rfl (ab (aU i) (p (nc rfl) (p (fa l7 rfl) (p (ld mZ rfl ((aM j.cells).trans rfl)) (p (bm mI rfl rfl) (p ak (nl ?_)))))))
 exact tn (C _ _ (rt (f1 rfl rfl (⟨rfl,Md.refl _ _⟩))))
theorem Aq (B E aO:Nat) (ak:Value) (vs:List Value) (xs:List cE) (w:World) (A:gO w B E aO ak vs xs) (aQ:xs.length≤70000) (hl:∀ x∈xs,x.2.length≤64):
 aK Tryz.prog 16 (List.toArray [aU E]) w (fun v w'=>(∃ vs,World.ownsRow w' w.heap.size 56 2 v xs.length (gA (xs.zip vs))∧bO w' w.heap.size 71 vs (xs.map (·.2))∧jh w' w.heap.size vs (xs.map (·.2)))∧Wk w w'):=by
 refine enter Tryz.func16 rfl Tryz.ntmps16 rfl ?_
 refine aa (fun _ al=>(ae (((al _ _ (sq (fun _ an=>aa (fun _ ao=> ?_))))))))
 refine ab (aU E) (p (fQ lG rfl rfl) (ag ((ao _ _ (cf (rfl) (az (tn (an _ _ (sq (fun _ ap=> ?_))))))))))
 refine rg rfl (ab (aU E) (p (nc rfl) (p (fa l7 rfl) (p (ld mZ rfl ((aM A.cells).trans rfl)) (e (cl yI (zm ak xs.length (gA (xs.zip vs)) w (Rd.fU A.own) (AR A.fl) (by omega)) rfl fun v11 w11 hR11=> ?_))))))
 obtain ⟨ho11,ax⟩:=hR11
 obtain ⟨s,eV,rfl⟩:=db ho11
 have hsl:vs.length=xs.length:=by have :=A.fl.1; rwa [List.length_map] at this
 refine ae (((ap _ _ (sq (fun _ aq=>aa (fun _ ar=>(p mv (p (bm mI rfl rfl) ?_))))))))
 refine p mv (ag ((ar _ _ (au (lp (fun ac G wI=> ∃ (i:Nat) (sa:List Value),(i≤xs.length)∧(sa.length=xs.length)∧(sa.drop i=vs.drop i)∧(jh wI w.heap.size (sa.take i) ((xs.map (·.2)).take i))∧(World.ownsRow wI w.heap.size 56 2 (.slice s xs.length eV) xs.length (gA (xs.zip sa)))∧(Wk w wI)∧(G 3= .slice s xs.length eV)∧(G 13=U (xs.length))∧(G 14=U i)∧(xs.length - i=ac)) _ ⟨0,vs,(by omega),hsl,rfl,(xu _ _),ho11,ax,rfl,rfl,rfl,rfl⟩ ?_)))))
 rintro ac G wI ⟨i,sa,hi,aJ,ai,hal,c,C,aI,aF,aH,rfl⟩
 refine fx 3 aI (fx 13 aF (fx 14 aH (aa (fun _ av=>(p (lt rfl rfl) (ag ((av _ _ (sq (fun _ aw=>cd rfl (fun aC=> ?_) (fun aC=> ?_)))))))))))
 refine az (tn (aw _ _ (sq (fun _ I=>au (sq (fun _ am=> ?_))))))
 obtain ⟨aR,aL,M⟩:=bO.get (A.wk C).fl (show i < (xs.map (·.2)).length by rw [List.length_map]; omega)
 obtain ⟨Z,ci,rfl⟩:=M.slice
 obtain ⟨x,Y⟩:∃ x,xs[i]? =some x:=⟨_,List.getElem?_eq_getElem (by omega)⟩
 have aN:(xs.map (·.2)).getD i []=x.2:=by rw [List.getD_eq_getElem?_getD,List.getElem?_map,Y]; rfl
 have hxl:=hl x (List.mem_of_getElem? Y)
 rw [← aN] at hxl
 have V:(xs.zip sa)[i]? =some (x,.slice Z ((xs.map (·.2)).getD i []).length ci):=List.getElem?_zip_eq_some.2 ⟨Y,(ph ai).trans aL⟩
 refine rg rfl (ab (U i) (p (bA (U i) rfl) (ag ((am _ _ (rg rfl (ab (.slice s xs.length eV) (ab (U i) ?_))))))))
 refine ab (.slice s xs.length eV) (ab (U i) (p (aG la rfl rfl (by omega) (aj.ok ((aA c).2) (k8 V))) (p (fa nJ rfl) (p (ld km rfl (iP (f:=iN) (m:=2) (fun _=>rfl) (aA c).2 V 1 (by decide))) (e (cl nf (nj Z ((xs.map (·.2)).getD i []).length ci (((xs.map (·.2)).getD i []).map ay) wI M.bL.2 (by simp) (fun h=>Tg.nS M (by simp) h) (m6 _) (by omega)) rfl fun aP aS aB=> ?_))))))
 obtain ⟨O,a⟩:=aB
 have hz24:=a.size
 refine p (aG la rfl rfl (by omega) (aj.ok ((aA (aE c a)).2) (k8 V))) (p (fa nJ rfl) (e (lD (j:=i*2 +1) (aE c a) nq rfl rfl (dx O) (by rw [Int.toNat_natCast]; omega) (by omega) fun w7 J ah=> ?_)))
 rw [AS (by omega) (by omega)] at ah
 have hE7:Wk w w7:=Wk.own (C.trans a) (aE c a) J (by omega)
 have ho24x:=bu (fV O (show w.heap.size≤wI.heap.size from C.size)) J (fun q aD=>ib O (aE c a) (by decide) aD)
 have hal7:=rh (rh hal a (fun _ hk=>hk.elim)) J (e9 (aE c a) (by decide))
 refine nl (bn (tn (I _ _ (rg rfl (p (ad rfl rfl (bw (by omega))) (p mv (nl (tn ?_))))))))
 exact ⟨_,by omega,i+1,sa.set i aP,(by omega),((by rw [List.length_set]; exact aJ)),(jN.set_drop ai),(xr hal7 (by rw [List.length_map]; omega) (by omega) ho24x),ah,hE7,rfl,rfl,rfl,rfl⟩
 refine ext (te _ (te _ (be (tn (aq _ _ (aa (fun _ I=>(ab (.slice s xs.length eV) ?_))))))))
 refine p (bA (.slice s xs.length eV) rfl) (ag ((I _ _ (rt (f1 rfl rfl ?_)))))
 rw [List.take_of_length_le (by omega),List.take_of_length_le (by rw [List.length_map]; omega)] at hal
 exact ⟨⟨sa,c,hal.t,hal⟩,C⟩
end Go.Hb.mP
end
section
set_option maxRecDepth 20000
set_option maxHeartbeats 1000000
namespace Go.Hb.oD
open Go.Proofs
open Go.Hb.eJ Go.Hb.fg Go.Hb.jg Go.Hb.fz Go.Hb.im Go.Hb.j8 Go.Hb.lP
structure wX where
 rb:Nat
 fb:Nat
 eof:Nat
 vr:Value
 vs:List (Nat×Value)
 rows:List Rw
section
variable {w w':World} {B k ln:Nat} {H:wX} {seen:List Tx} {vh:Value}
end
end Go.Hb.oD
end
section
set_option maxRecDepth 20000
set_option maxHeartbeats 1000000
namespace Go.Hb.qX
open Go.Hb.cG
open Go.Proofs
open Go.Hb.fZ
theorem E5 (s:List UInt8) (w:World) (hs:s.length≤1048576):
 aK Tryz.prog 40 (List.toArray [str s]) w (fun v w'=>World.ownsRow w' w.heap.size 9 1 (v) ((aR s)).length (((aR s)).map str)∧Wk w w'):=by
 refine enter Tryz.func40 rfl Tryz.ntmps40 rfl ?_
 refine aa (fun _ aH=>(ae (((aH _ _ ?_)))))
 refine c6 (fun aG aF=>(Wk w aF)∧(aG 0=str (fy s))) ?_ ?_
 refine aa (fun _ Z=>(ab (str s) (e (cl kY (lx s _) rfl fun bx w8 hR8=> ?_))))
 obtain ⟨rfl,ay⟩:=hR8
 refine ag ((Z _ _ (cb rfl (fun hc8=> ?_) (fun hc8=> ?_))))
 have hml:=Dz hc8
 exact rg rfl (ab (str s) (p (jD u9 rfl rfl (by omega)) (ae (((⟨ay,by show str (s.drop 3)=_; rw [Gj hc8]⟩))))))
 exact az (tn (⟨ay,by show str s=_; rw [vW hc8]⟩))
 rintro aG aF ⟨aw,a7⟩
 refine fx 0 a7 ?_
 have htl:=mJ s
 refine aa (fun _ Z=>(ae (((Z _ _ (aa (fun _ aI=>(e (jT ij fun aq w11 hb11 aZ aP=> ?_)))))))))
 have a5:World.ownsRow w11 w.heap.size 5 1 (.slice (some ⟨aq,0,none⟩) 0 0) (([]:List UInt8)).length (U8 (([]:List UInt8))):=aP _ (by have :=aw.size; omega)
 have aV:Wk w w11:=Md.trans aw aZ.md
 refine ae (((aI _ _ (aa (fun _ aJ=>(ae (((aJ _ _ ?_)))))))))
 refine sq (fun _ aL=>aa (fun _ aM=>(ae (((aM _ _ (au (lp (fun av A wI=> ∃ (i:Nat) (dn:List (List UInt8)) (a:List UInt8) (ob:Bool) (j O:Value),(i≤(fy s).length)∧(dn++bS a ((fy s).drop i)=aR s)∧(ob=decide (a≠[]))∧(a.length≤i)∧(Wk w wI)∧(World.ownsRow wI w.heap.size 9 1 (j) (dn).length ((dn).map str))∧(World.ownsRow wI w.heap.size 5 1 (O) (a).length (U8 (a)))∧(A 0=str (fy s))∧(A 3=j)∧(A 4=O)∧(A 5= .bool ob)∧(A 6= .int .i64 i)∧((fy s).length - i=av)) _ ⟨0,[],[],false,.slice none 0 0,.slice (some ⟨aq,0,none⟩) 0 0,(by omega),rfl,rfl,((by simp)),aV,(World.ownsRow_nil _ _ _ _),a5,rfl,rfl,rfl,rfl,rfl,rfl⟩ ?_))))))))
 rintro av A wI ⟨i,dn,a,ob,j,O,hi,hd,aD,hcl,J,q,c,a8,a9,ba,bb,bc,rfl⟩
 refine fx 0 a8 (fx 3 a9 (fx 4 ba (fx 5 bb (fx 6 bc ?_))))
 have bo:dn.length≤s.length+1:=by have h1:=congrArg List.length hd; have h2:=iS s; rw [List.length_append] at h1; omega
 have hsz:=J.size
 refine sq (fun _ aN=>aa (fun _ aO=>(ab (.int .i64 i) (ab (str (fy s)) (p (bR u9 rfl rfl) (p (lt rfl rfl) (nl ?_)))))))
 refine tn (aO _ _ (cd rfl (fun a2=> ?_) (fun a2=> ?_)))
 refine az (tn (aN _ _ (sq (fun _ E=>au (sq (fun _ U=>aa (fun _ C=>(ab (str (fy s)) ?_))))))))
 refine ab (.int .i64 i) (p (fp u9 rfl rfl (by omega)) (p (dF rfl rfl) (ag ((C _ _ (cd rfl (fun am=> ?_) (fun am=> ?_)))))))
 refine aa (fun _ V=>(ab (O) (ab (str (fy s)) (ab (.int .i64 i) (p (fp u9 rfl rfl (by omega)) (e (gh ij rfl rfl fun bg w26 bj M aQ=> ?_)))))))
 have hE26:Wk w w26:=Md.trans J M.md
 refine e (ap ij (aE c M.md) rfl (by have :=hE26.size; omega) rfl (aj.dZ aQ) (rfl) (rfl) (by omega) (by omega) fun bd bz a3 aB hz27 bp=> ?_)
 have hE27:=Wk.own hE26 (aE c M.md) aB (Nat.le_refl _)
 have ho27x:=uR a3
 have hod27:=bu (aE q M.md) aB (fun k hk=>ib q c (by decide) hk)
 refine ae (((V _ _ (aa (fun _ Y=>(ae (((Y _ _ ?_)))))))))
 refine ext (te _ (be (tn (E _ _ (rg rfl (ab (.int .i64 i) (p (ad rfl rfl (bw (by omega))) (p ak ?_))))))))
 exact ag ((⟨_,by omega,i+1,dn,a++ [(fy s).getD i 0],true,j,bd,(by omega),((by rw [drop_cons 0 (by omega),nP (D3 am)] at hd; exact hd)),((by simp)),((by rw [List.length_append,List.length_singleton]; omega)),hE27,hod27,ho27x,rfl,rfl,rfl,rfl,rfl,rfl⟩))
 have hb10:=CK (Decidable.of_not_not am)
 obtain ⟨G,I,rfl⟩:=db c
 refine az (tn (U _ _ (aa (fun _ V=>(ab (j) (ab (.slice G a.length I) (e (cl r4 (sL a G I _ (aA c).2 (by omega) (aA c).1) rfl fun v30 w30 a0=> ?_))))))))
 obtain ⟨rfl,ac⟩:=a0
 refine e (gh fc rfl rfl fun bh w31 bk ai aS=> ?_)
 have hE31:Wk w w31:=Md.trans (Md.trans J ac) ai.md
 refine e (ap fc (aE (aE q ac) ai.md) rfl (by have :=hE31.size; omega) rfl (aj.dZ aS) (rfl) (rfl) (by omega) (by omega) fun bf bB a4 aX bs bq=> ?_)
 have hE32:=Wk.own hE31 (aE (aE q ac) ai.md) aX (Nat.le_refl _)
 have ho32x:=mr a4
 refine ae (((V _ _ (aa (fun _ Y=>(e (jT ij fun ar w33 bl aC aT=> ?_)))))))
 have aW:Wk w w33:=Md.trans hE32 aC.md
 have a6:World.ownsRow w33 w.heap.size 5 1 (.slice (some ⟨ar,0,none⟩) 0 0) (([]:List UInt8)).length (U8 (([]:List UInt8))):=aT _ (by have :=hE32.size; omega)
 refine ae (((Y _ _ (rg rfl (p ak (nl (bn (tn (E _ _ ?_)))))))))
 exact rg rfl (ab (.int .i64 i) (p (ad rfl rfl (bw (by omega))) (ae (((⟨_,by omega,i+1,dn++ [dU a],[],false,bf,.slice (some ⟨ar,0,none⟩) 0 0,(by omega),((by rw [drop_cons 0 (by omega),hb10,p5] at hd; rw [List.append_assoc]; exact hd)),rfl,((by simp)),aW,(aE ho32x aC.md),a6,rfl,rfl,rfl,rfl,rfl,rfl⟩))))))
 refine ext (te _ (te _ (be (tn (aL _ _ (sq (fun _ E=>aa (fun _ U=> ?_))))))))
 refine ab (.bool ob) (ag ((U _ _ (cb rfl (fun an=> ?_) (fun an=> ?_)))))
 have hne:a≠[]:=by have :=aD.symm.trans an; exact of_decide_eq_true this
 obtain ⟨G,I,rfl⟩:=db c
 refine rg rfl (ab (j) (ab (.slice G a.length I) (e (cl r4 (sL a G I _ (aA c).2 (by omega) (aA c).1) rfl fun bt w37 a1=> ?_))))
 obtain ⟨rfl,ah⟩:=a1
 refine e (gh fc rfl rfl fun bi w38 bm al aU=> ?_)
 have ax:Wk w w38:=Md.trans (Md.trans J ah) al.md
 refine e (ap fc (aE (aE q ah) al.md) rfl (by have :=ax.size; omega) rfl (aj.dZ aU) (rfl) (rfl) (by omega) (by omega) fun bv w39 ho39 aY hz39 br=> ?_)
 have hE39:=Wk.own ax (aE (aE q ah) al.md) aY (Nat.le_refl _)
 have ho39x:=mr ho39
 refine ae (((E _ _ (aa (fun _ C=>(p mv (p ak (nl ?_))))))))
 refine tn (C _ _ (rt (f1 rfl rfl ?_)))
 have ao:dn++ [dU a]=aR s:=by rw [← hd,show List.drop i (fy s)= [] from List.drop_eq_nil_of_le (by omega),uu hne]
 exact ⟨by rw [← ao]; exact ho39x,hE39⟩
 have hne:a= []:=Decidable.of_not_not (of_decide_eq_false (aD.symm.trans an))
 refine az (tn (E _ _ (aa (fun _ C=>(ab (j) (p (bA (j) rfl) (ag ((C _ _ ?_)))))))))
 refine rt (f1 rfl rfl ?_)
 have ao:dn=aR s:=by rw [← hd,show List.drop i (fy s)= [] from List.drop_eq_nil_of_le (by omega),hne,nQ,List.append_nil]
 exact ⟨by rw [← ao]; exact q,J⟩
theorem mB (s:List UInt8) (w:World) (hs:s.length≤1048576):
 aK Tryz.prog 22 (List.toArray [str s]) w (fun v w'=>(∃ a,v= .tuple #[a,.int .i64 (if 65536 < s.length then 10 else 0)]∧(if 65536 < s.length then a= .slice none 0 0 else World.ownsRow w' w.heap.size 9 1 (a) ((aR s)).length (((aR s)).map str)))∧Wk w w'):=by
 refine enter Tryz.func22 rfl Tryz.ntmps22 rfl ?_
 refine aa (fun _ j=>(p ak (ae (((j _ _ (sq (fun _ q=>sq (fun _ A=> ?_)))))))))
 refine rg rfl (ab (str s) (p (bR u9 rfl rfl) (p (gt rfl rfl) (ag ((A _ _ (cd rfl (fun E=> ?_) (fun E=> ?_))))))))
 refine aa (fun _ c=>(p ak (ae (((c _ _ (rt (tr ?_))))))))
 refine f2 rfl rfl rfl ?_
 have hl:65536 < s.length:=by omega
 exact ⟨⟨.slice none 0 0,by show Value.tuple #[.slice none 0 0,.int .i64 10]=_; rw [if_pos hl],by rw [if_pos hl]⟩,Md.refl _ _⟩
 refine az (tn (q _ _ (aa (fun _ c=>(ab (str s) (e (cl yH (E5 s _ hs) rfl fun i w8 hR8=> ?_)))))))
 obtain ⟨G,C⟩:=hR8
 refine p ak (ae (((c _ _ (rt (f2 rfl rfl rfl ?_))))))
 have hl:¬65536 < s.length:=by omega
 exact ⟨⟨i,by show Value.tuple #[i,.int .i64 0]=_; rw [if_neg hl],by rw [if_neg hl]; exact G⟩,C⟩
end Go.Hb.qX
end
section
set_option maxRecDepth 20000
set_option maxHeartbeats 1000000
namespace Go.Hb.mO
open Go.Proofs
open Go.Hb.fz Go.Hb.im Go.Hb.g5 Go.Hb.j9
theorem BU {k:Nat} {s:Tx} {e:Nat} (h:gV k s= .error e):e≠0:=by
 unfold gV at h; repeat' split at h
 all_goals first | (cases h; done) | (cases h; assumption)
theorem D2 {s:Tx} {m:Int} {e:Nat} (h:cA s m= .error e):e≠0:=by
 unfold cA at h; repeat' split at h
 all_goals first | (cases h; done) | (cases h; decide)
theorem BC {k:Nat} {al:List (List Nat)} {s:Tx} {e:Nat} (h:dN k al s= .error e):e≠0:=by
 unfold dN at h; repeat' split at h
 all_goals first | exact BU h | (cases h; done) | (cases h; decide)
theorem AQ {F:aB} {row:List Tx} {e:Nat} (h:dV F row= .error e):e≠0:=by
 unfold dV at h
 repeat' split at h
 all_goals first
  | (cases h; done)
  | (cases h; decide)
  | (cases h; assumption)
  | (cases h; exact BC (by assumption))
theorem AW {F:aB} {eof l e:Nat} :∀ {n:Nat} {rows:List Rw},cz F eof n rows= .error (l,e)→e≠0:=by
 intro n
 induction n with
 | zero=>
   intro rows h
   cases rows with
   | nil=>rw [cz] at h; cases h
   | cons q rows=>rw [cz] at h; cases h; decide
 | succ n ih=>
   intro rows h
   cases rows with
   | nil=>rw [cz] at h; cases h; decide
   | cons q rows=>
     rw [cz] at h
     split at h
     · rename_i he; cases h; exact AQ he
     · split at h
       · rename_i he; cases h; exact ih he
       · cases h
theorem pc {F:aB} {t:Tx} {l e:Nat} (h:c9 F t= .error (l,e)):e≠0:=by
 unfold c9 at h
 split at h
 · cases h; decide
 · split at h
   · cases h; decide
   · split at h
     · cases h; decide
     · split at h
       · rename_i he; cases h; exact D2 he
       · exact AW h
end Go.Hb.mO
end
section
set_option maxRecDepth 20000
set_option maxHeartbeats 1000000
namespace Go.Hb.mN
open Go.Hb.cG
open Go.Proofs
open Go.Hb.eJ Go.Hb.fg Go.Hb.fz Go.Hb.jL Go.Hb.g5 Go.Hb.j9 Go.Hb.fG Go.Hb.jN Go.Hb.kb Go.Hb.kQ Go.Hb.mP Go.Hb.mO Go.Hb.oD
theorem sQ (a b c i j p:Int) (w:World):(binOp .eql 25 (.agg [.int .i64 a,.int .i64 b,.int .i64 c].toArray) (.agg [.int .i64 i,.int .i64 j,.int .i64 p].toArray)).run Tryz.prog w= .ok (.bool (decide (a=i∧b=j∧c=p))) w:=by
 have u1:=Tryz.underlying3
 have u2:=Tryz.underlying3
 have u3:=Tryz.underlying23
 have q:Tryz.prog.underlying 25=some (.struct (Tryz.prog.fieldsOf 25)):=by kernel_rfl
 have hp:Tryz.prog.stoodInHeld 25=false :=by kernel_rfl
 rw [run_eql_struct,show (10000:Nat)=9999 +1 from rfl,run_equalIn_agg w 9999 25 _ _ q hp]
 simp only [Program.fieldsOf,Tryz.underlying25]
 go_simp
 by_cases h1:a=i <;> by_cases h2:b=j <;> by_cases h3:c=p <;> simp [h1,h2,h3]
section
variable {N:Fm} {σ:Nat→Value} {w:World} {dst:Option Nat} {ty:TypeId} {pos :String} {af:Array Edge} {g:Option (Nat×Bool)} {x y:Operand}
theorem AX {s:TypeId} {a b c i j p:Int} (q:ev N σ x= .agg [.int .i64 a,.int .i64 b,.int .i64 c].toArray) (hy:ev N σ y= .agg [.int .i64 i,.int .i64 j,.int .i64 p].toArray):
 (execOp (ev N σ) ⟨dst,.binOp .eql 25 x y s,ty,pos,af,g⟩).run Tryz.prog w= .ok (.value (.bool (decide (a=i∧b=j∧c=p)))) w:=by
 have hm:Tryz.prog.eqGuardType Tryz.prog.depth 25=false :=by kernel_rfl
 have hg:=run_eqGuard_agg w .eql 25 x y [.int .i64 a,.int .i64 b,.int .i64 c].toArray [.int .i64 i,.int .i64 j,.int .i64 p].toArray hm
 have he:=sQ a b c i j p w
 simp only [execOp,q,hy,Sem.run_bind,hg,he,Result.andThen_ok,Sem.run_pure]
theorem uy {A:TypeId} {a b c i j p:Int} (s:ev N σ x= .agg [.int .i64 a,.int .i64 b,.int .i64 c].toArray) (hy:ev N σ y= .agg [.int .i64 i,.int .i64 j,.int .i64 p].toArray):
 (execOp (ev N σ) ⟨dst,.binOp .neq 25 x y A,ty,pos,af,g⟩).run Tryz.prog w= .ok (.value (.bool (decide (¬(a=i∧b=j∧c=p))))) w:=by
 have hm:Tryz.prog.eqGuardType Tryz.prog.depth 25=false :=by kernel_rfl
 have hg:=run_eqGuard_agg w .neq 25 x y [.int .i64 a,.int .i64 b,.int .i64 c].toArray [.int .i64 i,.int .i64 j,.int .i64 p].toArray hm
 have he:(binOp .neq 25 (.agg [.int .i64 a,.int .i64 b,.int .i64 c].toArray) (.agg [.int .i64 i,.int .i64 j,.int .i64 p].toArray)).run Tryz.prog w= .ok (.bool (decide (¬(a=i∧b=j∧c=p)))) w:=by
  have h:=sQ a b c i j p w
  simp only [binOp,Sem.run_bind] at h ⊢
  generalize ((Op.equal 25 (.agg [.int .i64 a,.int .i64 b,.int .i64 c].toArray) (.agg [.int .i64 i,.int .i64 j,.int .i64 p].toArray)).run Tryz.prog w)=r at h ⊢
  cases r with
  | ok q C=>
    simp only [Result.andThen_ok,Sem.run_pure,Result.ok.injEq,Value.bool.injEq] at h ⊢
    rw [h.1]
    exact ⟨(decide_not).symm,h.2⟩
  | halt q C=>simp [Result.andThen] at h
 simp only [execOp,s,hy,Sem.run_bind,hg,he,Result.andThen_ok,Sem.run_pure]
end
end Go.Hb.mN
end
section
set_option maxRecDepth 20000
set_option maxHeartbeats 1000000
namespace Go.Hb.qR
open Go.Hb.cG
open Go.Proofs
open Go.Hb.eJ Go.Hb.fg Go.Hb.fz Go.Hb.fG Go.Hb.kb Go.Hb.kQ Go.Hb.mN
theorem me (ls:List Tx) (i:Nat):(bG (ls.take i)).length≤(bG ls).length:=by
 have h:=congrArg List.length (tY (ls.take i) (ls.drop i))
 rw [List.take_append_drop,List.length_append] at h; omega
theorem nM {ls:List Tx} {i:Nat} (h:i < ls.length):bG (ls.take (i+1))=bG (ls.take i)++(ls.getD i []++ [13,10]):=by
 rw [g3 ls i [] h,tY]; simp [bG]
theorem CV:∀ (l cur:Tx),(bG (bS cur l)).length≤cur.length+3 *l.length+2:=by
 intro l
 induction l with
 | nil=>
   intro cur
   unfold bS
   split
   · simp [bG]
   · have :=ny cur; simp [bG]; omega
 | cons b r ih=>
   intro cur
   unfold bS
   split
   · have :=ny cur; have :=ih []; rw [pS]; simp at*; omega
   · have :=ih (cur++ [b]); simp at*; omega
theorem CU (t:Tx):(bG (aR t)).length≤3 *t.length+2:=by
 have :=CV (fy t) []; have :=mJ t; unfold aR; simp at*; omega
theorem CW (a:Option Addr) (c:Nat) (ls:List Tx) (w:World) (C:bB w.heap a ls) (hl:ls.length≤1048576) (al:(bG ls).length≤1048576):
 aK Tryz.prog 19 (List.toArray [.slice a ls.length c]) w (fun v w'=>v=str (bG ls)∧Wk w w'):=by
 refine enter Tryz.func19 rfl Tryz.ntmps19 rfl ?_
 refine aa (fun _ E=>(ae (((E _ _ (aa (fun _ G=>(p ak ?_))))))))
 refine ag ((G _ _ (sq (fun _ I=>aa (fun _ J=>(ab (.slice a ls.length c) (p (bm dI rfl rfl) (p mv ?_))))))))
 refine ag ((J _ _ (au (lp (fun A j wI=> ∃ (i:Nat),(i≤ls.length)∧(Wk w wI)∧(j 3=str (bG (ls.take i)))∧(j 6= .slice a ls.length c)∧(j 7=U (ls.length))∧(j 8=U i)∧(ls.length - i=A)) _ ⟨0,(by omega),(Md.refl _ _),(by first | rfl | (rw [nM (by omega)]; rfl)),rfl,rfl,rfl,rfl⟩ ?_))))
 rintro A j wI ⟨i,hi,q,Z,ac,ah,ai,rfl⟩
 refine fx 3 Z (fx 6 ac (fx 7 ah (fx 8 ai (aa (fun _ M=>(p (lt rfl rfl) (ag ((M _ _ (sq (fun _ O=>cd rfl (fun Y=> ?_) (fun Y=> ?_))))))))))))
 refine az (tn (O _ _ (sq (fun _ s=>au (aa (fun _ V=>(p (aG bU rfl rfl (by omega) (aj.ok (C.wk q) (bN (by omega)))) (p (ld bY rfl (bB.get (i:=i) (C.wk q) (by omega))) ?_))))))))
 refine ae (((V _ _ (rg rfl (ab (str (bG (ls.take i))) (p mv (p (cc rfl rfl (by have :=congrArg List.length (nM (ls:=ls) (i:=i) (by omega)); have :=me ls (i+1); simp at*; omega)) (p (cc rfl rfl (by have :=congrArg List.length (nM (ls:=ls) (i:=i) (by omega)); have :=me ls (i+1); simp at*; omega)) ?_))))))))
 refine p ak (nl (bn (tn (s _ _ (rg rfl (p (ad rfl rfl (bw (by omega))) (p mv (nl ?_))))))))
 exact tn (⟨_,by omega,i+1,(by omega),q,(by first | rfl | (rw [nM (by omega)]; rfl)),rfl,rfl,rfl,rfl⟩)
 refine ext (te _ (te _ (be (tn (I _ _ (aa (fun _ s=>(ab (str (bG (ls.take i))) ?_))))))))
 exact p (bA (str (bG (ls.take i))) rfl) (ag ((s _ _ (rt (f1 rfl rfl (⟨by rw [List.take_of_length_le (by omega)]; rfl,q⟩))))))
end Go.Hb.qR
end
section
set_option maxRecDepth 20000
set_option maxHeartbeats 1000000
namespace Go.Hb.qT
open Go.Hb.cG
open Go.Proofs
open Go.Hb.eJ Go.Hb.fg Go.Hb.fz Go.Hb.jL Go.Hb.g5 Go.Hb.j9 Go.Hb.fG Go.Hb.jN Go.Hb.kb Go.Hb.kQ Go.Hb.mP Go.Hb.mO Go.Hb.mN Go.Hb.oD
theorem kL (w:World):
 aK Tryz.prog 13 (List.toArray []) w (fun v w'=>v= .bool true∧Wk w w'):=by
 refine enter Tryz.func13 rfl Tryz.ntmps13 rfl ?_
 refine aa (fun _ ah=>(ae (((ah _ _ (aa (fun _ ai=>(e (cl e0 (kh ox w (by decide)) rfl fun a9 w7 hR7=> ?_)))))))))
 obtain ⟨U,hE7⟩:=hR7
 rw [Gr] at U
 obtain ⟨fb,mc,V,aM,hF7,av,ay⟩:=U
 subst aM
 refine p mv (p (xt rfl rfl) (p (xt rfl rfl) (e (al eZ fun aQ bb hb2 I hB2=> ?_))))
 have hz2:=I.size
 have hz7:=hE7.size
 refine p ak (e (bC dz rfl rfl rfl rfl (hB2) (by simp) fun wt1_6 G aU=> ?_))
 have A:Wk w7 wt1_6:=I.md.trans' G (fun q aH h=>by omega)
 have hz1:=G.size
 refine ag ((ai _ _ (aa (fun _ am=>(p mv (e (cl eV (jV w.heap.size fb mc lL V qI wt1_6 (hF7.wk A) av ay (by decide)) rfl fun di w12 aB=> ?_)))))))
 obtain ⟨O,hE12⟩:=aB
 rw [Gs] at O
 obtain ⟨B,ad,Z,ab,vs,aT,aL,aE,_⟩:=O
 subst aL
 refine p mv (p (xt rfl rfl) (p (xt rfl rfl) (e (al eZ fun aR w4 aV J au=> ?_))))
 have hz4:=J.size
 have hz12:=hE12.size
 refine p ak (e (bC dz rfl rfl rfl rfl (au) (by simp) fun wt2_7 ax ar=> ?_))
 have C:Wk w12 wt2_7:=J.md.trans' ax (fun q aH h=>by omega)
 have hW2:=aE.wk C
 refine ag ((am _ _ (sq (fun _ an=>aa (fun _ ao=>(p mv (p (fQ lG rfl rfl) (p mv ?_))))))))
 refine gb (t:=17) rfl (fun h=>absurd (h.symm.trans (rfl)) Bool.noConfusion) (fun aX=> ?_)
 refine pg rfl rfl rfl (da fO rfl (rfl) (fun j a4=>ar.bE j)) (pg rfl rfl rfl (bZ (ps:= []) (L:= [.int .i64 0,.int .i64 0,.int .i64 0]) kJ rfl (rfl)) (pg rfl rfl rfl (uy rfl rfl) (p (a7 rfl) (p mv (gs (t:=22) rfl (fun h=>absurd h (fun h=>h ⟨rfl,rfl,rfl⟩)) (fun aZ=> ?_))))))
 refine pg rfl rfl rfl mv (eg rfl rfl rfl (cl yu (AE B ad Z ab vs kM wt2_7 hW2 (by decide)) rfl fun a6 ac aC=> ?_))
 obtain ⟨rfl,E⟩:=aC
 have hW24:=hW2.wk E
 refine pg rfl rfl rfl (dF rfl rfl) (p (a7 rfl) (ag ((ao _ _ (cd rfl (fun h=>absurd h (fun h=>h rfl)) (fun aW=> ?_))))))
 refine az (tn (an _ _ (aa (fun _ ap=>(p mv (e (cl yo (Aq B ad Z ab vs kM ac hW24 (by decide) (by decide)) rfl fun a8 w28 aD=> ?_)))))))
 obtain ⟨aF,aw⟩:=aD
 obtain ⟨vx,Y,M,_⟩:=aF
 have hsl:=db Y
 obtain ⟨aP,aS,aN⟩:=hsl
 subst aN
 obtain ⟨a5,aI,a⟩:=bO.get M (show 0 < (kM.map (·.2)).length by decide)
 obtain ⟨u1,aJ,hT1⟩:=bO.get M (show 1 < (kM.map (·.2)).length by decide)
 have hs0:=a.slice
 obtain ⟨c,s,aO⟩:=hs0
 subst aO
 have a:Tg w28 ac.heap.size 71 1 (.slice c 1 s) [.int .u16 (65:Nat)]:=a
 have hC:=(aA Y).2
 have hq0:(kM.zip vx)[0]? =some (([102,108,121],[65]),.slice c 1 s):=List.getElem?_zip_eq_some.2 ⟨rfl,aI⟩
 have hq1:(kM.zip vx)[1]? =some (([105,110,47,111,117,116],[]),u1):=List.getElem?_zip_eq_some.2 ⟨rfl,aJ⟩
 refine ae (((ap _ _ (aa (fun _ aq=>(p mv (p (bm mI rfl rfl) (p (ba rfl rfl) ?_))))))))
 refine p mv (gs (t:=32) rfl (fun a0=> ?_) (fun h=>absurd rfl h))
 refine pg rfl rfl rfl mv (pg rfl rfl rfl (aG la rfl rfl (by decide) (aj.ok (hC) (k8 hq0))) (pg rfl rfl rfl (fa nI rfl) (pg rfl rfl rfl (ld bY rfl (iP (f:=iN) (m:=2) (i:=0) (fun _=>rfl) hC hq0 0 (by decide))) (pg rfl rfl rfl (e5 rfl rfl) (p (bl rfl) (p mv (gs (t:=39) rfl (fun a1=> ?_) (fun h=>absurd rfl h))))))))
 refine pg rfl rfl rfl mv (pg rfl rfl rfl (aG la rfl rfl (by decide) (aj.ok (hC) (k8 hq0))) (pg rfl rfl rfl (fa nJ rfl) (pg rfl rfl rfl (ld km rfl (iP (f:=iN) (m:=2) (i:=0) (fun _=>rfl) hC hq0 1 (by decide))) (pg rfl rfl rfl (bm iZ rfl rfl) (pg rfl rfl rfl (ba rfl rfl) (p (bl rfl) (p mv ?_)))))))
 refine gs (t:=47) rfl (fun a2=> ?_) (fun h=>absurd rfl h)
 refine pg rfl rfl rfl mv (pg rfl rfl rfl (aG la rfl rfl (by decide) (aj.ok (hC) (k8 hq0))) (pg rfl rfl rfl (fa nJ rfl) (pg rfl rfl rfl (ld km rfl (iP (f:=iN) (m:=2) (i:=0) (fun _=>rfl) hC hq0 1 (by decide))) (pg rfl rfl rfl (aG aY rfl rfl (by decide) (aj.ok (a.bL.2) (by simp))) (pg rfl rfl rfl (ld bc rfl (aj.g7 (i:=0) a.bL.2 rfl)) (pg rfl rfl rfl (ba rfl rfl) (p (bl rfl) ?_)))))))
 refine p mv (gs (t:=56) rfl (fun a3=> ?_) (fun h=>absurd rfl h))
 refine pg rfl rfl rfl mv (pg rfl rfl rfl (aG la rfl rfl (by decide) (aj.ok (hC) (k8 hq1))) (pg rfl rfl rfl (fa nI rfl) (pg rfl rfl rfl (ld bY rfl (iP (f:=iN) (m:=2) (i:=1) (fun _=>rfl) hC hq1 0 (by decide))) (pg rfl rfl rfl (e5 rfl rfl) (p (bl rfl) (p ak (nl ?_)))))))
 exact tn (aq _ _ (rt (f1 rfl rfl (⟨congrArg Value.bool (decide_eq_true rfl),hE7.trans (A.trans (hE12.trans (C.trans (E.trans aw))))⟩))))
end Go.Hb.qT
end
section
set_option maxRecDepth 20000
set_option maxHeartbeats 1000000
namespace Go.Hb.qU
open Go.Hb.cG
open Go.Proofs
open Go.Hb.eJ Go.Hb.fg Go.Hb.fz Go.Hb.jL Go.Hb.g5 Go.Hb.j9 Go.Hb.fG Go.Hb.jN Go.Hb.kb Go.Hb.kQ Go.Hb.mP Go.Hb.mO Go.Hb.mN Go.Hb.qR Go.Hb.fZ Go.Hb.qX Go.Hb.qT
section
variable {F:aB} {t:Tx} {ln er:Nat}
theorem pB (h:c9 F t= .error (ln,er)) (hl:¬65536 < t.length):(1≤ln∧ln≤(aR t).length+1)∧(ln=(aR t).length+1→er=116):=by
 rw [l0,if_neg hl] at h
 rcases sG h with ⟨h1,h2⟩ | ⟨q,a,h1⟩
 · exact ⟨by omega,fun _=>h2⟩
 · have :=nY _ _ _ a
   exact ⟨by omega,by omega⟩
variable (h:c9 F t= .error (ln,er)) (hl:¬65536 < t.length)
include h hl
theorem Bs {u:Tx} (h1:1≤ln) (h2:ln≤(aR t).length) (hs:¬65536 < (bG ((aR t).take ln)++u).length) (hm:e8 (bG ((aR t).take ln))=false):c9 F (bG ((aR t).take ln)++u)= .error (ln,er):=by
 have i:∀ l∈(aR t).take ln,10∉l:=fun l hl=>uo (List.mem_of_mem_take hl)
 have hne:(aR t).take ln≠[]:=fun e=>by have h9:=congrArg List.length e; rw [List.length_take,List.length_nil] at h9; omega
 have hll:((aR t).take ln).length=ln:=by rw [List.length_take]; omega
 rw [l0,if_neg hl] at h
 rw [l0,if_neg hs]
 have a:cg t=dA 1 ((aR t).take ln)++dA (1 +ln) ((aR t).drop ln):=by
  have h:=qs ((aR t).take ln) ((aR t).drop ln) 1
  rw [List.take_append_drop,hll] at h; exact h
 have c:cg (bG ((aR t).take ln)++u)=dA 1 ((aR t).take ln)++dA (1 +ln) (bS [] u):=by
  unfold cg
  rw [uk i (by rw [Dy hne]; exact hm),qs,hll]
 rw [a] at h
 rw [c]
 exact AD (L:=ln) (B:=dA (1 +ln) ((aR t).drop ln)) (fun q j=>by have :=nY _ _ _ j; omega) (show ln≠(aR t).length+1 by omega) h
theorem Bq (h1:1≤ln) (h2:ln≤(aR t).length) (hs:¬65536 < (bG ((aR t).take (ln - 1))).length) (hm:e8 (bG ((aR t).take (ln - 1)))=false):(∃ r,c9 F (bG ((aR t).take (ln - 1)))= .ok r)∨c9 F (bG ((aR t).take (ln - 1)))= .error (ln,116):=by
 have i:∀ l∈(aR t).take (ln - 1),10∉l:=fun l hl=>uo (List.mem_of_mem_take hl)
 have hll:((aR t).take (ln - 1)).length=ln - 1:=by rw [List.length_take]; omega
 rw [l0,if_neg hl] at h
 rw [l0,if_neg hs]
 have a:cg t=dA 1 ((aR t).take (ln - 1))++dA (1 +(ln - 1)) ((aR t).drop (ln - 1)):=by
  have h:=qs ((aR t).take (ln - 1)) ((aR t).drop (ln - 1)) 1
  rw [List.take_append_drop,hll] at h; exact h
 have c:aR (bG ((aR t).take (ln - 1)))=(aR t).take (ln - 1):=Dh i hm
 unfold cg
 rw [c,hll,show ln - 1 +1=ln from by omega]
 rw [a] at h
 exact AB (L:=ln) (A:=dA 1 ((aR t).take (ln - 1))) (fun q j=>by have :=nY _ _ _ j; omega) h
end
theorem tZ (a:Option Addr) (c:Nat) (ls:List Tx) (k:Nat) (w:World) (hk:k≤ls.length) (i:bB w.heap a ls) (hl:ls.length≤1048576) (j:(bG ls).length≤1048576):aK Tryz.prog 19 [.slice a k c].toArray w (fun v w'=>v=str (bG (ls.take k))∧Wk w w'):=by
 have h:=CW a c (ls.take k) w (i.take k) (by rw [List.length_take]; omega) (by have :=me ls k; omega)
 rw [List.length_take,Nat.min_eq_left hk] at h
 exact h
theorem AG (B fb mc:Nat) (F:aB) (V:cR) (t:Tx) (w:World) (ln:Nat) (i:bz w B fb mc F V) (a:∃ seen,fE F [] seen) (hnx:Nx F) (hs:t.length≤1048576) (hd:(∃ r,c9 F t= .ok r)∨c9 F t= .error (ln,116)):
 aK Tryz.prog 11 [.pointer (some ⟨fb,0,none⟩),str t].toArray w (fun v w'=>(∃ (q:Option Addr) (f l c:Int),v= .tuple #[.pointer q,.agg [.int .i64 f,.int .i64 l,.int .i64 c].toArray]∧(c=0∨(c=116∧l=(ln:Nat))))∧Wk w w'):=by
 refine (jV B fb mc F V t w i a hnx hs).mono fun v w' hv=>⟨?_,hv.2⟩
 obtain ⟨hm,_⟩:=hv
 rcases hd with ⟨r,hd⟩ | hd
 · rw [hd] at hm
   obtain ⟨_,j,_,_,_,_,rfl,_⟩:=hm
   exact ⟨_,_,_,_,rfl,.inl rfl⟩
 · rw [hd] at hm
   have hv:v=_:=hm
   subst hv
   exact ⟨_,_,_,_,rfl,.inr ⟨rfl,rfl⟩⟩
theorem Bo (a t u:Tx) (w:World) (ha:a.length≤1048576) (ao:t.length≤1048576) (hu:u.length≤1048576) (ln er:Nat) (Z:eU a= .error (ln,er)):
 aK Tryz.prog 6 (List.toArray [str a,str t,str u]) w (fun v w'=>v= .bool true∧Wk w w'):=by
 refine enter Tryz.func6 rfl Tryz.ntmps6 rfl ?_
 refine aa (fun _ s=>(ae (((s _ _ (aa (fun _ A=>(ab (str a) ?_))))))))
 refine e (cl e0 (kh a w (by omega)) rfl fun ac w21 O=> ?_)
 obtain ⟨j,hE21⟩:=O
 rw [Z] at j
 have Y:ac=_:=j
 subst Y
 refine p mv (p (xt rfl rfl) (p (xt rfl rfl) (e (al eZ fun ai w8 hb8 i G=> ?_))))
 have hz8:=i.size
 have hz21:=hE21.size
 refine p ak (e (bC dz rfl rfl rfl rfl (G) (by simp) fun wt1_7 c aj=> ?_))
 have I:Wk w21 wt1_7:=i.md.trans' c (fun q an h=>by omega)
 have hz1:=c.size
 refine ag ((A _ _ (sq (fun _ ah=>aa (fun _ C=>(e (cl ks (kL wt1_7) rfl fun ap ad U=> ?_)))))))
 obtain ⟨rfl,J⟩:=U
 refine p (no rfl) (p mv (gb (t:=26) rfl (fun h=>absurd (h.symm.trans (rfl)) Bool.noConfusion) (fun am=> ?_)))
 refine pg rfl rfl rfl mv (pg rfl rfl rfl (fQ iY rfl rfl) (p (a7 rfl) (ag ((C _ _ (ct (rfl) (aa (fun _ E=> ?_))))))))
 refine e (cl ks (kL ad) rfl fun v30 w30 V=> ?_)
 obtain ⟨rfl,M⟩:=V
 exact ae (((E _ _ (rt (tr (f1 rfl rfl (⟨rfl,hE21.trans (I.trans (J.trans M))⟩)))))))
theorem Bl (a t u:Tx) (w:World) (ha:a.length≤1048576) (J:t.length≤1048576) (hu:u.length≤1048576) (F:aB) (aF:eU a= .ok F) (I:65536 < t.length):
 aK Tryz.prog 6 (List.toArray [str a,str t,str u]) w (fun v w'=>v= .bool true∧Wk w w'):=by
 refine enter Tryz.func6 rfl Tryz.ntmps6 rfl ?_
 refine aa (fun _ M=>(ae (((M _ _ (aa (fun _ O=>(ab (str a) ?_))))))))
 refine e (cl e0 (kh a w (by omega)) rfl fun aR w21 aw=> ?_)
 obtain ⟨E,hE21⟩:=aw
 rw [aF] at E
 obtain ⟨fb,mc,V,aD,ar,ao,av⟩:=E
 subst aD
 refine p mv (p (xt rfl rfl) (p (xt rfl rfl) (e (al eZ fun aJ w8 hb8 C aq=> ?_))))
 have hz8:=C.size
 have hz21:=hE21.size
 refine p ak (e (bC dz rfl rfl rfl rfl (aq) (by simp) fun wt1_7 s aL=> ?_))
 have c:Wk w21 wt1_7:=C.md.trans' s (fun q aC h=>by omega)
 have hz1:=s.size
 refine ag ((O _ _ (sq (fun _ Y=>aa (fun _ Z=>(e (cl ks (kL wt1_7) rfl fun aS aU ax=> ?_)))))))
 obtain ⟨rfl,i⟩:=ax
 refine p (no rfl) (p mv (gb (t:=26) rfl (fun h=>absurd (h.symm.trans (rfl)) Bool.noConfusion) (fun aO=> ?_)))
 refine pg rfl rfl rfl mv (pg rfl rfl rfl (fQ iY rfl rfl) (p (a7 rfl) (ag ((Z _ _ (cf (rfl) (az (tn (Y _ _ ?_)))))))))
 refine aa (fun _ ac=>(ab (str t) (e (cl jU (mB t _ J) rfl fun aT w33 ay=> ?_))))
 obtain ⟨⟨aI,rfl,aN⟩,hE33⟩:=ay
 refine p mv (p (xt rfl rfl) (p (xt rfl rfl) (p ak (ae (((ac _ _ (sq (fun _ ad=> ?_)))))))))
 refine rg rfl (p mv (ab (str t) (e (cl eV (jV w.heap.size fb mc F V t w33 (ar.wk (c.trans (i.trans hE33))) ao av J) rfl fun aG w39 aA=> ?_))))
 obtain ⟨G,hE39⟩:=aA
 rw [sF (F:=F) I] at G
 have aE:aG=_:=G
 subst aE
 refine p mv (p (xt rfl rfl) (p (xt rfl rfl) (e (al eZ fun aj w12 hb12 A am=> ?_))))
 have hz12:=A.size
 have hz39:=hE39.size
 refine p ak (e (bC dz rfl rfl rfl rfl (am) (by simp) fun wt5_8 au ap=> ?_))
 have hE5:Wk w39 wt5_8:=A.md.trans' au (fun q aC h=>by omega)
 have hE5x:=hE21.trans (c.trans (i.trans (hE33.trans (hE39.trans hE5))))
 have an:a9 wt5_8.heap aj [.int .i64 2,U 0,U 10]:=ap
 refine ag ((ad _ _ (sq (fun _ aH=>aa (fun _ ah=>(p mv (p (dF rfl rfl) (nl ?_))))))))
 refine tn (ah _ _ (cd rfl (fun aM=> ?_) (fun h=>absurd (by rw [if_pos I]; decide) h)))
 refine aa (fun _ ai=>(p mv (p (fQ lG rfl rfl) (p mv (gb (t:=46) rfl (fun aP=> ?_) (fun h=>absurd ((rfl).symm.trans h) Bool.noConfusion))))))
 refine pg rfl rfl rfl (da fO rfl (rfl) (fun j aQ=>an.bE j)) (pg rfl rfl rfl (bZ (ps:= [(0,.int .i64 2),(2,.int .i64 10)]) (L:= [.int .i64 2,.int .i64 0,.int .i64 10]) kJ rfl (rfl)) (pg rfl rfl rfl (AX rfl rfl) (p (bl rfl) (ae (((ai _ _ (rt ?_))))))))
 exact tr (f1 rfl rfl (⟨congrArg Value.bool (decide_eq_true ⟨rfl,rfl,rfl⟩),hE5x⟩))
theorem Bp (a t u:Tx) (w:World) (ha:a.length≤1048576) (J:t.length≤1048576) (hu:u.length≤1048576) (F:aB) (aG:eU a= .ok F) (xs:List cE) (I:¬65536 < t.length) (hd:c9 F t= .ok xs):
 aK Tryz.prog 6 (List.toArray [str a,str t,str u]) w (fun v w'=>v= .bool true∧Wk w w'):=by
 refine enter Tryz.func6 rfl Tryz.ntmps6 rfl ?_
 refine aa (fun _ M=>(ae (((M _ _ (aa (fun _ Y=>(ab (str a) ?_))))))))
 refine e (cl e0 (kh a w (by omega)) rfl fun aU w21 ax=> ?_)
 obtain ⟨E,hE21⟩:=ax
 rw [aG] at E
 obtain ⟨fb,mc,V,aE,au,ap,aw⟩:=E
 subst aE
 refine p mv (p (xt rfl rfl) (p (xt rfl rfl) (e (al eZ fun aJ w8 hb8 A ar=> ?_))))
 have hz8:=A.size
 have hz21:=hE21.size
 refine p ak (e (bC dz rfl rfl rfl rfl (ar) (by simp) fun wt1_7 j aL=> ?_))
 have c:Wk w21 wt1_7:=A.md.trans' j (fun q aD h=>by omega)
 have hz1:=j.size
 refine ag ((Y _ _ (sq (fun _ Z=>aa (fun _ ac=>(e (cl ks (kL wt1_7) rfl fun aV aZ ay=> ?_)))))))
 obtain ⟨rfl,i⟩:=ay
 refine p (no rfl) (p mv (gb (t:=26) rfl (fun h=>absurd (h.symm.trans (rfl)) Bool.noConfusion) (fun aP=> ?_)))
 refine pg rfl rfl rfl mv (pg rfl rfl rfl (fQ iY rfl rfl) (p (a7 rfl) (ag ((ac _ _ (cf (rfl) (az (tn (Z _ _ ?_)))))))))
 refine aa (fun _ ad=>(ab (str t) (e (cl jU (mB t _ J) rfl fun aW w33 aA=> ?_))))
 obtain ⟨⟨aI,rfl,C⟩,hE33⟩:=aA
 rw [if_neg I] at C
 obtain ⟨aS,iF,rfl⟩:=db C
 refine p mv (p (xt rfl rfl) (p (xt rfl rfl) (p ak (ae (((ad _ _ (sq (fun _ ah=> ?_)))))))))
 refine rg rfl (p mv (ab (str t) (e (cl eV (jV w.heap.size fb mc F V t w33 (au.wk (c.trans (i.trans hE33))) ap aw J) rfl fun aX w39 aC=> ?_))))
 obtain ⟨G,hE39⟩:=aC
 rw [hd] at G
 obtain ⟨B,a0,aT,aY,vs,aM,aF,aN,_⟩:=G
 subst aF
 refine p mv (p (xt rfl rfl) (p (xt rfl rfl) (e (al eZ fun am w12 hb12 s an=> ?_))))
 have hz12:=s.size
 have hz39:=hE39.size
 refine p ak (e (bC dz rfl rfl rfl rfl (an) (by simp) fun wt5_8 av aq=> ?_))
 have hE5:Wk w39 wt5_8:=s.md.trans' av (fun q aD h=>by omega)
 have hE5x:=hE21.trans (c.trans (i.trans (hE33.trans (hE39.trans hE5))))
 have ao:a9 wt5_8.heap am [.int .i64 0,.int .i64 0,.int .i64 0]:=aq
 refine ag ((ah _ _ (sq (fun _ ai=>aa (fun _ aj=>(p mv (p (dF rfl rfl) (nl ?_))))))))
 refine tn (aj _ _ (cd rfl (fun h=>absurd h (fun h=>h (if_neg I))) (fun aO=> ?_)))
 refine az (tn (ai _ _ (sq (fun _ aH=>aa (fun _ O=>(p (fa jX rfl) (p (ld jQ rfl (ao.bE 2)) (p (ba rfl rfl) ?_))))))))
 refine p mv (gs (t:=54) rfl (fun aQ=> ?_) (fun h=>absurd rfl h))
 refine sk rfl rfl rfl rfl (sk rfl rfl rfl rfl (p (bl rfl) (ag ((O _ _ (ct rfl (aa (fun _ U=> ?_))))))))
 refine p mv (p (uz lG rfl rfl) (p mv (gb (t:=60) rfl (fun aR=> ?_) (fun h=>absurd ((rfl).symm.trans h) Bool.noConfusion))))
 refine sk rfl rfl rfl rfl (sk rfl rfl rfl rfl (sk rfl rfl rfl rfl (p (bl rfl) (ae (((U _ _ (rt ?_))))))))
 exact tr (f1 rfl rfl (⟨rfl,hE5x⟩))
theorem Bn (a t u:Tx) (w:World) (ha:a.length≤1048576) (O:t.length≤1048576) (hu:u.length≤1048576) (F:aB) (aM:eU a= .ok F) (ln er:Nat) (M:¬65536 < t.length) (hd:c9 F t= .error (ln,er)) (aH:e8 t=true):
 aK Tryz.prog 6 (List.toArray [str a,str t,str u]) w (fun v w'=>v= .bool true∧Wk w w'):=by
 have hne:=pc hd
 refine enter Tryz.func6 rfl Tryz.ntmps6 rfl ?_
 refine aa (fun _ Y=>(ae (((Y _ _ (aa (fun _ ad=>(ab (str a) ?_))))))))
 refine e (cl e0 (kh a w (by omega)) rfl fun aX w21 aC=> ?_)
 obtain ⟨I,hE21⟩:=aC
 rw [aM] at I
 obtain ⟨fb,mc,V,aJ,ax,au,aA⟩:=I
 subst aJ
 refine p mv (p (xt rfl rfl) (p (xt rfl rfl) (e (al eZ fun aQ w8 hb8 E aw=> ?_))))
 have hz8:=E.size
 have hz21:=hE21.size
 refine p ak (e (bC dz rfl rfl rfl rfl (aw) (by simp) fun wt1_7 A aR=> ?_))
 have i:Wk w21 wt1_7:=E.md.trans' A (fun q aI h=>by omega)
 have hz1:=A.size
 refine ag ((ad _ _ (sq (fun _ ah=>aa (fun _ ai=>(e (cl ks (kL wt1_7) rfl fun aY a1 aD=> ?_)))))))
 obtain ⟨rfl,j⟩:=aD
 refine p (no rfl) (p mv (gb (t:=26) rfl (fun h=>absurd (h.symm.trans (rfl)) Bool.noConfusion) (fun aT=> ?_)))
 refine pg rfl rfl rfl mv (pg rfl rfl rfl (fQ iY rfl rfl) (p (a7 rfl) (ag ((ai _ _ (cf (rfl) (az (tn (ah _ _ ?_)))))))))
 refine aa (fun _ aj=>(ab (str t) (e (cl jU (mB t _ O) rfl fun aZ w33 aE=> ?_))))
 obtain ⟨⟨aP,rfl,G⟩,hE33⟩:=aE
 rw [if_neg M] at G
 obtain ⟨aW,iF,rfl⟩:=db G
 refine p mv (p (xt rfl rfl) (p (xt rfl rfl) (p ak (ae (((aj _ _ (sq (fun _ am=> ?_)))))))))
 refine rg rfl (p mv (ab (str t) (e (cl eV (jV w.heap.size fb mc F V t w33 (ax.wk (i.trans (j.trans hE33))) au aA O) rfl fun aN w39 aF=> ?_))))
 obtain ⟨J,hE39⟩:=aF
 rw [hd] at J
 have aL:aN=_:=J
 subst aL
 refine p mv (p (xt rfl rfl) (p (xt rfl rfl) (e (al eZ fun aq w12 hb12 C ar=> ?_))))
 have hz12:=C.size
 have hz39:=hE39.size
 refine p ak (e (bC dz rfl rfl rfl rfl (ar) (by simp) fun wt5_8 ay av=> ?_))
 have hE5:Wk w39 wt5_8:=C.md.trans' ay (fun q aI h=>by omega)
 have hE5x:=hE21.trans (i.trans (j.trans (hE33.trans (hE39.trans hE5))))
 have c:a9 wt5_8.heap aq [.int .i64 2,U ln,U er]:=av
 refine ag ((am _ _ (sq (fun _ an=>aa (fun _ ap=>(p mv (p (dF rfl rfl) (nl ?_))))))))
 refine tn (ap _ _ (cd rfl (fun h=>absurd h (fun h=>h (if_neg M))) (fun aS=> ?_)))
 refine az (tn (an _ _ (sq (fun _ aO=>aa (fun _ Z=>(p (fa jX rfl) (p (ld jQ rfl (c.bE 2)) (p (ba rfl rfl) ?_))))))))
 refine p mv (gs (t:=54) rfl (fun h=>absurd h (by omega)) (fun aU=> ?_))
 refine pg rfl rfl rfl (ao (str t) rfl) (eg rfl rfl rfl (cl kY (lx t wt5_8) rfl fun a0 w56 aG=> ?_))
 obtain ⟨rfl,s⟩:=aG
 refine p (a7 rfl) (ag ((Z _ _ (ct (congrArg Value.bool aH) (aa (fun _ ac=>(p mv (p (uz lG rfl rfl) ?_))))))))
 refine p mv (gb (t:=60) rfl (fun h=>absurd (h.symm.trans (rfl)) Bool.noConfusion) (fun aV=> ?_))
 refine pg rfl rfl rfl (fa jX rfl) (pg rfl rfl rfl (ld jQ rfl ((Wk.B s c).bE 2)) (pg rfl rfl rfl (dF rfl rfl) (p (a7 rfl) (ae (((ac _ _ (rt ?_))))))))
 exact tr (f1 rfl rfl (⟨congrArg Value.bool (decide_eq_true (by omega)),hE5x.trans s⟩))
theorem Bj (a t u:Tx) (w:World) (ha:a.length≤1048576) (O:t.length≤1048576) (hu:u.length≤1048576) (F:aB) (aS:eU a= .ok F) (ln er:Nat) (j:¬65536 < t.length) (hd:c9 F t= .error (ln,er)) (aN:e8 t=false) (hln:ln=(aR t).length+1):
 aK Tryz.prog 6 (List.toArray [str a,str t,str u]) w (fun v w'=>v= .bool true∧Wk w w'):=by
 have hne:=pc hd
 have hin:=pB hd j
 have hllt:=iS t
 refine enter Tryz.func6 rfl Tryz.ntmps6 rfl ?_
 refine aa (fun _ Y=>(ae (((Y _ _ (aa (fun _ aj=>(ab (str a) ?_))))))))
 refine e (cl e0 (kh a w (by omega)) rfl fun a5 w21 aG=> ?_)
 obtain ⟨J,hE21⟩:=aG
 rw [aS] at J
 obtain ⟨fb,mc,V,aP,aD,ay,aF⟩:=J
 subst aP
 refine p mv (p (xt rfl rfl) (p (xt rfl rfl) (e (al eZ fun aW w8 hb8 G aC=> ?_))))
 have hz8:=G.size
 have hz21:=hE21.size
 refine p ak (e (bC dz rfl rfl rfl rfl (aC) (by simp) fun wt1_7 C aX=> ?_))
 have s:Wk w21 wt1_7:=G.md.trans' C (fun q aO h=>by omega)
 have hz1:=C.size
 refine ag ((aj _ _ (sq (fun _ am=>aa (fun _ an=>(e (cl ks (kL wt1_7) rfl fun a6 bd aI=> ?_)))))))
 obtain ⟨rfl,A⟩:=aI
 refine p (no rfl) (p mv (gb (t:=26) rfl (fun h=>absurd (h.symm.trans (rfl)) Bool.noConfusion) (fun a1=> ?_)))
 refine pg rfl rfl rfl mv (pg rfl rfl rfl (fQ iY rfl rfl) (p (a7 rfl) (ag ((an _ _ (cf (rfl) (az (tn (am _ _ ?_)))))))))
 refine aa (fun _ ap=>(ab (str t) (e (cl jU (mB t _ O) rfl fun bb w33 aJ=> ?_))))
 obtain ⟨⟨aV,rfl,I⟩,hE33⟩:=aJ
 rw [if_neg j] at I
 obtain ⟨a4,iF,rfl⟩:=db I
 refine p mv (p (xt rfl rfl) (p (xt rfl rfl) (p ak (ae (((ap _ _ (sq (fun _ aq=> ?_)))))))))
 refine rg rfl (p mv (ab (str t) (e (cl eV (jV w.heap.size fb mc F V t w33 (aD.wk (s.trans (A.trans hE33))) ay aF O) rfl fun aT w39 aL=> ?_))))
 obtain ⟨M,hE39⟩:=aL
 rw [hd] at M
 have aQ:aT=_:=M
 subst aQ
 refine p mv (p (xt rfl rfl) (p (xt rfl rfl) (e (al eZ fun aw w12 hb12 E ax=> ?_))))
 have hz12:=E.size
 have hz39:=hE39.size
 refine p ak (e (bC dz rfl rfl rfl rfl (ax) (by simp) fun wt5_8 aE aA=> ?_))
 have hE5:Wk w39 wt5_8:=E.md.trans' aE (fun q aO h=>by omega)
 have hE5x:=hE21.trans (s.trans (A.trans (hE33.trans (hE39.trans hE5))))
 have c:a9 wt5_8.heap aw [.int .i64 2,U ln,U er]:=aA
 refine ag ((aq _ _ (sq (fun _ ar=>aa (fun _ au=>(p mv (p (dF rfl rfl) (nl ?_))))))))
 refine tn (au _ _ (cd rfl (fun h=>absurd h (fun h=>h (if_neg j))) (fun aY=> ?_)))
 refine az (tn (ar _ _ (sq (fun _ av=>aa (fun _ Z=>(p (fa jX rfl) (p (ld jQ rfl (c.bE 2)) (p (ba rfl rfl) ?_))))))))
 refine p mv (gs (t:=54) rfl (fun h=>absurd h (by omega)) (fun a2=> ?_))
 refine pg rfl rfl rfl (ao (str t) rfl) (eg rfl rfl rfl (cl kY (lx t wt5_8) rfl fun bc w56 aM=> ?_))
 obtain ⟨rfl,i⟩:=aM
 refine p (a7 rfl) (ag ((Z _ _ (cf (congrArg Value.bool aN) (az (tn (av _ _ (sq (fun _ ac=>sq (fun _ ad=> ?_))))))))))
 refine rg rfl (p (fa iQ rfl) (p (ld cX rfl ((Wk.B i c).bE 1)) (p (lt rfl rfl) (p mv (gs (t:=68) rfl (fun h=>absurd h (by omega)) (fun a3=> ?_))))))
 refine pg rfl rfl rfl (fa iQ rfl) (pg rfl rfl rfl (ld cX rfl ((Wk.B i c).bE 1)) (pg rfl rfl rfl mv (pg rfl rfl rfl (bm dI rfl rfl) (pg rfl rfl rfl (a8 (((aR t).length+1:Nat):Int) rfl rfl (aH (by omega) (by omega))) (pg rfl rfl rfl (gt rfl rfl) (p (a7 rfl) (nl ?_)))))))
 refine tn (ad _ _ (cd rfl (fun h=>absurd h (by omega)) (fun aZ=> ?_)))
 refine az (tn (ac _ _ (sq (fun _ aU=>aa (fun _ ah=>(p (fa iQ rfl) (p (ld cX rfl ((Wk.B i c).bE 1)) (p mv ?_))))))))
 refine p (bm dI rfl rfl) (p (a8 (((aR t).length+1:Nat):Int) rfl rfl (aH (by omega) (by omega))) (p (ba rfl rfl) (ag ((ah _ _ (cd rfl (fun a0=> ?_) (fun h=>absurd (by omega) h)))))))
 refine aa (fun _ ai=>(p (fa jX rfl) (p (ld jQ rfl ((Wk.B i c).bE 2)) (p (ba rfl rfl) (ae (((ai _ _ ?_))))))))
 exact rt (tr (f1 rfl rfl (⟨congrArg Value.bool (decide_eq_true (by have :=hin.2 hln; omega)),hE5x.trans i⟩)))
theorem Bk (a t u:Tx) (w:World) (ha:a.length≤1048576) (aN:t.length≤1048576) (hu:u.length≤1048576) (F:aB) (bQ:eU a= .ok F) (ln er:Nat) (G:¬65536 < t.length) (hd:c9 F t= .error (ln,er)) (bH:e8 t=false) (hln:ln≤(aR t).length):
 aK Tryz.prog 6 (List.toArray [str a,str t,str u]) w (fun v w'=>v= .bool true∧Wk w w'):=by
 have hne:=pc hd
 have hin:=pB hd G
 have hllt:=iS t
 have hjl:=CU t
 have hjt:=me (aR t) ln
 have hjb:=me (aR t) (ln - 1)
 refine enter Tryz.func6 rfl Tryz.ntmps6 rfl ?_
 refine aa (fun _ aO=>(ae (((aO _ _ (aa (fun _ aX=>(ab (str a) ?_))))))))
 refine e (cl e0 (kh a w (by omega)) rfl fun cm w21 bu=> ?_)
 obtain ⟨aJ,hE21⟩:=bu
 rw [bQ] at aJ
 obtain ⟨fb,mc,V,bO,aq,am,ar⟩:=aJ
 subst bO
 refine p mv (p (xt rfl rfl) (p (xt rfl rfl) (e (al eZ fun b2 w8 hb8 aF bi=> ?_))))
 have hz8:=aF.size
 have hz21:=hE21.size
 refine p ak (e (bC dz rfl rfl rfl rfl (bi) (by simp) fun wt1_7 ay b3=> ?_))
 have M:Wk w21 wt1_7:=aF.md.trans' ay (fun q au h=>by omega)
 have hz1:=ay.size
 refine ag ((aX _ _ (sq (fun _ aY=>aa (fun _ aZ=>(e (cl ks (kL wt1_7) rfl fun cn cs bv=> ?_)))))))
 obtain ⟨rfl,Y⟩:=bv
 refine p (no rfl) (p mv (gb (t:=26) rfl (fun h=>absurd (h.symm.trans (rfl)) Bool.noConfusion) (fun ce=> ?_)))
 refine pg rfl rfl rfl mv (pg rfl rfl rfl (fQ iY rfl rfl) (p (a7 rfl) (ag ((aZ _ _ (cf (rfl) (az (tn (aY _ _ ?_)))))))))
 refine aa (fun _ a0=>(ab (str t) (e (cl jU (mB t _ aN) rfl fun co w33 bw=> ?_))))
 obtain ⟨⟨b1,rfl,C⟩,hE33⟩:=bw
 rw [if_neg G] at C
 obtain ⟨ac,iF,rfl⟩:=db C
 refine p mv (p (xt rfl rfl) (p (xt rfl rfl) (p ak (ae (((a0 _ _ (sq (fun _ a1=> ?_)))))))))
 refine rg rfl (p mv (ab (str t) (e (cl eV (jV w.heap.size fb mc F V t w33 (aq.wk (M.trans (Y.trans hE33))) am ar aN) rfl fun bT w39 bx=> ?_))))
 obtain ⟨aL,hE39⟩:=bx
 rw [hd] at aL
 have bP:bT=_:=aL
 subst bP
 refine p mv (p (xt rfl rfl) (p (xt rfl rfl) (e (al eZ fun aw w12 hb12 aC bb=> ?_))))
 have hz12:=aC.size
 have hz39:=hE39.size
 refine p ak (e (bC dz rfl rfl rfl rfl (bb) (by simp) fun wt5_8 bp bh=> ?_))
 have hE5:Wk w39 wt5_8:=aC.md.trans' bp (fun q au h=>by omega)
 have hE5x:=hE21.trans (M.trans (Y.trans (hE33.trans (hE39.trans hE5))))
 have s:a9 wt5_8.heap aw [.int .i64 2,U ln,U er]:=bh
 refine ag ((a1 _ _ (sq (fun _ a2=>aa (fun _ a3=>(p mv (p (dF rfl rfl) (nl ?_))))))))
 refine tn (a3 _ _ (cd rfl (fun h=>absurd h (fun h=>h (if_neg G))) (fun b7=> ?_)))
 refine az (tn (a2 _ _ (sq (fun _ a4=>aa (fun _ aP=>(p (fa jX rfl) (p (ld jQ rfl (s.bE 2)) (p (ba rfl rfl) ?_))))))))
 refine p mv (gs (t:=54) rfl (fun h=>absurd h (by omega)) (fun cg=> ?_))
 refine pg rfl rfl rfl (ao (str t) rfl) (eg rfl rfl rfl (cl kY (lx t wt5_8) rfl fun cp w56 bz=> ?_))
 obtain ⟨rfl,i⟩:=bz
 refine p (a7 rfl) (ag ((aP _ _ (cf (congrArg Value.bool bH) (az (tn (a4 _ _ (sq (fun _ aQ=>sq (fun _ aS=> ?_))))))))))
 refine rg rfl (p (fa iQ rfl) (p (ld cX rfl ((Wk.B i s).bE 1)) (p (lt rfl rfl) (p mv (gs (t:=68) rfl (fun h=>absurd h (by omega)) (fun ch=> ?_))))))
 refine pg rfl rfl rfl (fa iQ rfl) (pg rfl rfl rfl (ld cX rfl ((Wk.B i s).bE 1)) (pg rfl rfl rfl mv (pg rfl rfl rfl (bm dI rfl rfl) (pg rfl rfl rfl (a8 (((aR t).length+1:Nat):Int) rfl rfl (aH (by omega) (by omega))) (pg rfl rfl rfl (gt rfl rfl) (p (a7 rfl) (nl ?_)))))))
 refine tn (aS _ _ (cd rfl (fun h=>absurd h (by omega)) (fun b8=> ?_)))
 refine az (tn (aQ _ _ (sq (fun _ aT=>aa (fun _ aV=>(p (fa iQ rfl) (p (ld cX rfl ((Wk.B i s).bE 1)) (p mv ?_))))))))
 refine p (bm dI rfl rfl) (p (a8 (((aR t).length+1:Nat):Int) rfl rfl (aH (by omega) (by omega))) (p (ba rfl rfl) (ag ((aV _ _ (cd rfl (fun h=>absurd h (by omega)) (fun b9=> ?_)))))))
 refine az (tn (aT _ _ (aa (fun _ aW=>(p mv (p (fa iQ rfl) (p (ld cX rfl ((Wk.B i s).bE 1)) (p (kI bU rfl rfl (by have :=(aA C).1; omega)) ?_))))))))
 refine e (cl rS (tZ ac iF (aR t) ln w56 hln (aj.wk (aA C).2 (hE39.trans (hE5.trans i))) (by omega) (by omega)) rfl fun cq bZ bA=> ?_)
 obtain ⟨rfl,Z⟩:=bA
 refine ae (((aW _ _ ?_)))
 refine c6 (fun ad wC=>(Wk wt5_8 wC)∧(ad 7=aU fb)∧(ad 9= .slice ac (aR t).length iF)∧(ad 12=aU aw)) ?_ ?_
 refine aa (fun _ I=>(p mv (p (bR u9 rfl rfl) (ab (str u) (p (bR u9 rfl rfl) (p (a8 (((bG ((aR t).take ln)).length+u.length:Nat):Int) rfl rfl (aH (by omega) (by omega))) (p (le rfl rfl) ?_)))))))
 refine p mv (gs (t:=96) rfl (fun hsz=> ?_) (fun hsz=> ?_))
 refine pg rfl rfl rfl mv (eg rfl rfl rfl (cl kY (lx (bG ((aR t).take ln)) bZ) rfl fun cr b0 bB=> ?_))
 obtain ⟨rfl,ap⟩:=bB
 refine pg rfl rfl rfl (no rfl) (p (bl rfl) (ag ((I _ _ (cb rfl (fun aM=> ?_) (fun aM=> ?_))))))
 refine aa (fun _ ah=>(p mv (p mv (ab (str u) (p (cc rfl rfl (by omega)) (e (cl eV (jV w.heap.size fb mc F V ((bG ((aR t).take ln))++u) b0 (aq.wk (M.trans (Y.trans (hE33.trans (hE39.trans (hE5.trans (i.trans (Z.trans ap)))))))) am ar (by rw [List.length_append]; omega)) rfl fun bS bV bq=> ?_)))))))
 obtain ⟨aI,ax⟩:=bq
 rw [Bs hd G (by omega) hln (by rw [List.length_append]; omega) (by simpa using aM)] at aI
 have bN:bS=_:=aI
 subst bN
 refine p mv (p (xt rfl rfl) (p (xt rfl rfl) (e (al eZ fun a5 w15 b4 aD bc=> ?_))))
 have hz15:=aD.size
 have hz106:=ax.size
 refine p ak (e (bC dz rfl rfl rfl rfl (bc) (by simp) fun wt16_10 bn bf=> ?_))
 have bj:Wk bV wt16_10:=aD.md.trans' bn (fun q au h=>by omega)
 have bd:a9 wt16_10.heap a5 [.int .i64 2,U ln,U er]:=bf
 have hE16x:=i.trans (Z.trans (ap.trans (ax.trans bj)))
 refine ag ((ah _ _ (aa (fun _ J=>(p (da fO rfl (rfl) (fun j bF=>bd.bE j)) (p (da fO rfl (rfl) (fun j bF=>(Wk.B hE16x s).bE j)) (p (uy rfl rfl) (nl ?_))))))))
 refine tn (J _ _ (cd rfl (fun h=>absurd h (fun h=>h ⟨rfl,rfl,rfl⟩)) (fun b6=> ?_)))
 exact az (tn (⟨hE16x,rfl,rfl,rfl⟩))
 exact az (tn (⟨(i.trans (Z.trans ap)),rfl,rfl,rfl⟩))
 refine sk rfl rfl rfl rfl (sk rfl rfl rfl rfl (sk rfl rfl rfl rfl (p (a7 rfl) (ag ((I _ _ (cf rfl (az ?_))))))))
 exact tn (⟨(i.trans Z),rfl,rfl,rfl⟩)
 rintro ad wC ⟨A,bK,bL,bJ⟩
 refine fx 7 bK (fx 9 bL (fx 12 bJ (aa (fun _ I=>(ab (.slice ac (aR t).length iF) (p (fa iQ rfl) (p (ld cX rfl ((Wk.B A s).bE 1)) (p (bI ((ln - 1:Nat):Int) rfl rfl (aH (by omega) (by omega))) (p (kI bU rfl rfl (by have :=(aA C).1; omega)) ?_)))))))))
 refine e (cl rS (tZ ac iF (aR t) (ln - 1) wC (by omega) (aj.wk (aA C).2 (hE39.trans (hE5.trans A))) (by omega) (by omega)) rfl fun ci bW br=> ?_)
 obtain ⟨rfl,O⟩:=br
 refine ae (((I _ _ (sq (fun _ ah=>aa (fun _ J=>(p mv (p (bR u9 rfl rfl) ?_))))))))
 refine p (gt rfl rfl) (p mv (gs (t:=121) rfl (fun bM=> ?_) (fun bM=> ?_)))
 refine sk rfl rfl rfl rfl (sk rfl rfl rfl rfl (p (bl rfl) (ag ((J _ _ (ct rfl (aa (fun _ E=> ?_))))))))
 exact ae (((E _ _ (rt (tr (f1 rfl rfl (⟨rfl,hE5x.trans (A.trans O)⟩)))))))
 refine pg rfl rfl rfl mv (eg rfl rfl rfl (cl kY (lx (bG ((aR t).take (ln - 1))) bW) rfl fun cj bX bs=> ?_))
 obtain ⟨rfl,an⟩:=bs
 refine p (a7 rfl) (ag ((J _ _ (cb rfl (fun aG=> ?_) (fun aG=> ?_)))))
 refine aa (fun _ E=>(ae (((E _ _ (rt (tr (f1 rfl rfl ?_))))))))
 exact ⟨rfl,hE5x.trans (A.trans (O.trans an))⟩
 refine az (tn (ah _ _ (aa (fun _ E=>(ab (aU fb) (p mv (e (cl eV (AG w.heap.size fb mc F V (bG ((aR t).take (ln - 1))) bX ln (aq.wk (M.trans (Y.trans (hE33.trans (hE39.trans (hE5.trans (A.trans (O.trans an)))))))) am ar (by omega) (Bq hd G (by omega) hln (by omega) aG)) rfl fun ck bY bt=> ?_))))))))
 obtain ⟨⟨q,f,l,c,rfl,hcl⟩,hE128⟩:=bt
 refine p mv (p (xt rfl rfl) (p (xt rfl rfl) (e (al eZ fun a6 w18 b5 aE hB18=> ?_))))
 have hz18:=aE.size
 have hz128:=hE128.size
 refine p ak (e (bC dz rfl rfl rfl rfl (hB18) (by simp) fun wt22_8 bo bg=> ?_))
 have bk:Wk bY wt22_8:=aE.md.trans' bo (fun q au h=>by omega)
 have ai:a9 wt22_8.heap a6 [.int .i64 f,.int .i64 l,.int .i64 c]:=bg
 have hE22x:=A.trans (O.trans (an.trans (hE128.trans bk)))
 refine ag ((E _ _ (aa (fun _ av=>(p (fa jX rfl) (p (ld jQ rfl (ai.bE 2)) (p (ba rfl rfl) (p mv ?_))))))))
 refine gs (t:=134) rfl (fun bD=> ?_) (fun bD=> ?_)
 refine sk rfl rfl rfl rfl (sk rfl rfl rfl rfl (sk rfl rfl rfl rfl (sk rfl rfl rfl rfl (ig rfl rfl rfl (ig rfl rfl rfl (ig rfl rfl rfl (ig rfl rfl rfl ?_)))))))
 refine ig rfl rfl rfl (sk rfl rfl rfl rfl (p (bl rfl) (ae (((av _ _ (rt (f1 rfl rfl ?_))))))))
 exact ⟨rfl,hE5x.trans hE22x⟩
 refine pg rfl rfl rfl (fa jX rfl) (pg rfl rfl rfl (ld jQ rfl (ai.bE 2)) (pg rfl rfl rfl (ba rfl rfl) (pg rfl rfl rfl mv (gs (t:=138) rfl (fun ca=> ?_) (fun h=>absurd (by omega) h)))))
 refine pg rfl rfl rfl (fa iQ rfl) (pg rfl rfl rfl (ld cX rfl (ai.bE 1)) (pg rfl rfl rfl (fa iQ rfl) (pg rfl rfl rfl (ld cX rfl ((Wk.B hE22x s).bE 1)) (pg rfl rfl rfl (ba rfl rfl) (pg rfl rfl rfl (bl rfl) (p (a7 rfl) (p ak ?_)))))))
 exact ag ((av _ _ (rt (f1 rfl rfl (⟨congrArg Value.bool (decide_eq_true (by omega)),hE5x.trans hE22x⟩)))))
theorem Ax (a t u:Tx) (w:World) (ha:a.length≤1048576) (i:t.length≤1048576) (hu:u.length≤1048576):aK Tryz.prog 6 [str a,str t,str u].toArray w (fun v w'=>v= .bool true∧Wk w w'):=by
 cases hx:eU a with
 | error e=>exact Bo a t u w ha i hu e.1 e.2 hx
 | ok F=>
   by_cases c:65536 < t.length
   · exact Bl a t u w ha i hu F hx c
   · cases hd:c9 F t with
     | ok xs=>exact Bp a t u w ha i hu F hx xs c hd
     | error e=>
       obtain ⟨ln,er⟩:=e
       cases hmk:e8 t with
       | true =>exact Bn a t u w ha i hu F hx ln er c hd hmk
       | false =>
         have hin:=pB hd c
         by_cases hln:ln≤(aR t).length
         · exact Bk a t u w ha i hu F hx ln er c hd hmk hln
         · exact Bj a t u w ha i hu F hx ln er c hd hmk (by omega)
end Go.Hb.qU
end
