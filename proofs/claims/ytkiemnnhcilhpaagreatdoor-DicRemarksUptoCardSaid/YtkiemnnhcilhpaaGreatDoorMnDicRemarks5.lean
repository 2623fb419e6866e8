/-
  Walks and plain laws that the law rests on, laid together. No conditions but those that each theorem names.
-/
import Derived.Test.YtkiemnnhcilhpaaGreatDoorMnDicRemarks4
set_option linter.unusedVariables false
section
set_option maxRecDepth 20000
set_option maxHeartbeats 1000000
namespace Go.Hb.m8
open Go.Hb.cU
open Go.Proofs
open Go.Hb.fY Go.Hb.fX Go.Hb.m4
set_option maxHeartbeats 1000000 in
theorem vL (s:List UInt8) (w:World) (hs:s.length≤1048576):
 aT Tryz.prog 29 (List.toArray [str s]) w (fun v w'=>(∃ a,v= .tuple #[a,.int .i64 (if 65536 < s.length then 10 else 0)]∧(if 65536 < s.length then a= .slice none 0 0 else ∃ vs,World.ownsRow w' w.heap.size 105 2 a (cT s).length (gR vs)∧eB w' w.heap.size 9 vs (cT s)))∧Wk w w'):=by
 refine tp [] Tryz.func29 rfl Tryz.ntmps29 rfl ?_
 refine dZ ?_
 refine eI ?_
 refine rg rfl (p au (p au (nl (ef ?_))))
 refine dZ ?_
 refine dZ ?_
 refine eI ?_
 refine rg rfl (p (az (str s) rfl) (p (bY u9 rfl rfl) (p (gt rfl rfl) (nl (ef ?_)))))
 refine eI ?_
 refine cd rfl (fun a3=> ?_) (fun a3=> ?_)
 refine sq (fun ay aa=>rg rfl (p au (p au (nl (tn (aa _ _ (rt (qS ?_))))))))
 refine tq rfl rfl rfl ?_
 have hl:65536 < s.length:=by omega
 exact ⟨⟨.slice none 0 0,by show Value.tuple #[.slice none 0 0,.int .i64 10]=_; rw [if_pos hl],by rw [if_pos hl]⟩,Md.refl _ _⟩
 refine aE (ef ?_)
 refine dZ ?_
 refine eI ?_
 refine rg rfl (e (fZ Hf fun ag w4 bz a0 aD=>nl (ef ?_)))
 refine dZ ?_
 refine dZ ?_
 refine eI ?_
 refine rg rfl (p (az (str s) rfl) (e (cl sB (td s _) rfl fun bG w14 a1=> ?_)))
 obtain ⟨aj,rfl,hb14,aB,hE14⟩:=a1
 have U:Wk w w14:=Md.trans a0.md hE14
 have bB:ag < w4.heap.size:=(Array.getElem?_eq_some_iff.1 aD).1
 have hb4x:=hE14.aw aD
 have hb14l:=(Array.getElem?_eq_some_iff.1 aB).1
 have hl:s.length≤65536:=by omega
 refine nl (ef ?_)
 apply vH (nN) ((ff 1 (aC s))) (fun W=>W.heap[aj]? =some (.cells [str s].toArray 9 (0,0))) (fun pre I=> ∃ v vs,I.heap[ag]? =some (.cells [v].toArray 74 (0,0))∧World.ownsRow I w14.heap.size 105 2 v (du 1 (pre.map Prod.snd)).length (gR vs)∧eB I w14.heap.size 9 vs (du 1 (pre.map Prod.snd))∧I.heap[aj]? =some (.cells [str s].toArray 9 (0,0))∧w14.heap.size≤I.heap.size∧Wk w I) rfl sI (fun _=>rfl) (tc s aj hl) (⟨.slice none 0 0,[],hb4x,World.ownsRow_nil _ _ _ _,eB.nil _ _ _,aB,Nat.le_refl _,U⟩) (fun _ _ ⟨_,_,_,_,_,h,_⟩=>h) (fun pre A C F ⟨v,vs,h1,h2,aM,h3,h5,h4⟩ hm Z=>⟨v,vs,oH h1 hm Z,wg h2 hm Z,aM.md hm (fun k hk cur z=>(Z k hk).2 cur _ z),oH h3 hm Z,Nat.le_trans h5 hm.size,wh h4 hm U.size Z⟩)
 intro l x I K V
 refine sq (fun ay aa=>rg rfl (p (bD (.int .i64 x.1) rfl) (nl (tn (aa _ _ (rg rfl (p (bD (str x.2) rfl) (nl ?_))))))))
 exact tn (V)
 intro l pre x rest I bk am
 obtain ⟨v,vs,ar,ac,hrw,aq,hsz,al⟩:=am
 obtain ⟨hpl,bl,bm⟩:=qE bk
 have hll:=ib s
 have hsR:=(Array.getElem?_eq_some_iff.1 aq).1
 have hxl:x.2.length≤s.length:=uM (by rw [bm]; simp)
 have hfl:=p5 x.2 []
 have hrl:=vI (pre.map Prod.snd) 1
 rw [List.length_map] at hrl
 refine aw (sq (fun ay aa=>rg rfl (p mv (e (cl y9 (BH x.2 _ (by omega)) rfl fun bH w18 a2=> ?_)))))
 obtain ⟨ab,aP⟩:=a2
 obtain ⟨j,ah,rfl⟩:=cH ab
 have hS18:=(aG ab).2
 have hc18:=(aG ab).1
 refine p au (nl (tn (aa _ _ ?_)))
 refine cQ (fun ai wC=> ∃ (n cp:Nat),(n≤(bT [] x.2).length)∧(n≤cp)∧(jd (bT [] x.2)=(bT [] x.2).take n)∧(Wk w18 wC)∧(ai 4= .pointer (some ⟨ag,0,none⟩))∧(ai 5= .int .i64 x.1)∧(ai 7= .slice j n cp)) ?_ ?_
 refine sq (fun aI an=>rg rfl (p mv (p (bp ea rfl rfl) (p mv (nl (tn (an _ _ (aw ?_))))))))
 refine lp (fun aA O wI=> ∃ (i:Nat),(i≤(bT [] x.2).length)∧(∀ q,q < i→om ((bT [] x.2).getD q [])=false)∧(Wk w18 wI)∧(O 4= .pointer (some ⟨ag,0,none⟩))∧(O 5= .int .i64 x.1)∧(O 7= .slice j (bT [] x.2).length ah)∧(O 19= .slice j (bT [] x.2).length ah)∧(O 20= .int .i64 (bT [] x.2).length)∧(O 21= .int .i64 i)∧((bT [] x.2).length - i=aA)) _ ⟨0,(by omega),((fun q a7=>by omega)),(Md.refl _ _),rfl,rfl,rfl,rfl,rfl,rfl,rfl⟩ ?_
 rintro aA O wI ⟨i,hi,ax,Y,bg,bi,bj,bc,bd,bf,rfl⟩
 refine fx 4 bg (fx 5 bi (fx 7 bj (fx 19 bc (fx 20 bd (fx 21 bf (sq (fun bq aS=>rg rfl (p (lt rfl rfl) (nl (tn (aS _ _ (sq (fun br aV=>cd rfl (fun a4=> ?_) (fun a4=> ?_))))))))))))))
 refine aE (tn (aV _ _ (sq (fun bs aW=>aw (sq (fun bt aX=>rg rfl (p (az (.int .i64 i) rfl) (p (aK bO rfl rfl (by omega) (ao.ok (hS18.wk Y) (bL (by omega)))) ?_))))))))
 refine p (ld bW rfl (bh.get (i:=i) (hS18.wk Y) (by omega))) (p (bD (.int .i64 i) rfl) (p au (nl (tn (aX _ _ (sq (fun bv aY=>rg rfl (p mv ?_))))))))
 refine p (gw 0 u9 rfl rfl (List.length_pos_iff.2 (tL _ _ _ (Cq (by omega))).1)) (p (bu rfl rfl) (nl (tn (aY _ _ (cd rfl (fun a5=> ?_) (fun a5=> ?_))))))
 refine sq (fun bw aZ=>rg rfl (p (az (.slice j (bT [] x.2).length ah) rfl) (p (az (.int .i64 i) rfl) (p (az (.int .i64 i) rfl) (p (zL bO rfl rfl rfl (by omega)) (p au (nl ?_)))))))
 exact tn (aZ _ _ (ext (iV (by decide) (te _ (te _ (be (tn (⟨i,i,hi,(Nat.le_refl _),(uB hi ax (.inr (decide_eq_true (by omega)))),Y,rfl,rfl,rfl⟩))))))))
 refine aE (bn (tn (aW _ _ (rg rfl (p (ad rfl rfl (bC (by omega))) (p mv (nl (tn ?_))))))))
 exact ⟨_,by omega,i+1,(by omega),((fun q a7=>by rcases Nat.lt_or_ge q i with h | h <;> first | exact ax q h | (rw [show q=i by omega]; exact decide_eq_false (by omega)))),Y,rfl,rfl,rfl,rfl,rfl,rfl,rfl⟩
 exact ext (te _ (te _ (be (tn (⟨(bT [] x.2).length,ah,(Nat.le_refl _),hc18,((by have h:=uB hi ax (.inl (by omega)); rwa [show i=(bT [] x.2).length from by omega] at h)),Y,rfl,rfl,rfl⟩)))))
 rintro ai wC ⟨n,cp,hn,hcp,aH,ak,a8,a9,bb⟩
 refine fx 4 a8 (fx 5 a9 (fx 7 bb ?_))
 have E:Wk I wC:=Md.trans aP ak
 have hbC:=E.aw ar
 have hovC:=aJ ac E
 have hrwC:=hrw.wk E
 have hbtC:=E.aw aq
 have aF:Wk w wC:=Md.trans al E
 refine sq (fun aI an=>rg rfl (p (az (.slice j n cp) rfl) (p (bp ea rfl rfl) (p (gt rfl rfl) (nl (tn (an _ _ (cd rfl (fun a6=> ?_) (fun a6=> ?_)))))))))
 have ae:je x.2 (1 +pre.length)= [(x.1,(bT [] x.2).take n)]:=by unfold je; rw [aH,if_neg (fun h=>by have h:=congrArg List.length h; rw [List.length_take,List.length_nil] at h; omega),← bl]
 refine rg rfl (p (ld k6 rfl ((aU hbC).trans rfl)) (p (az (.int .i64 x.1) rfl) (p (az (.slice j n cp) rfl) (p (cz (ps:= [(0,.int .i64 x.1),(1,.slice j n cp)]) (L:= [.int .i64 x.1,.slice j n cp]) Ge rfl (rfl)) (e (kG vY rfl rfl rfl fun aL w41 hb41 G aN=> ?_))))))
 have aO:ba w41.heap aL [.int .i64 x.1,.slice j n cp]:=aN
 have aQ:Wk w w41:=Md.trans aF G.md
 have hov41:=aJ hovC G.md
 have hb41:=G.md.aw hbC
 refine e (ap vY (hov41) rfl (by have :=G.size; have :=E.size; omega) rfl (ao.dz aO) (rfl) (rfl) (by omega) (by omega) fun bo w42 av J bE bA=> ?_)
 have hE42:=Wk.own aQ hov41 J U.size
 have hbt42:=J.aw (G.md.aw hbtC) (fun h=>by have :=c4 hov41 h; omega)
 have hb42:=J.aw hb41 (fun h=>cG hov41 hb41 (by decide) h)
 have hrw42:=(hrwC.wk G.md).md J (fw hov41 (by decide))
 have ho42f:=bF (aJ (aJ ab ak) G.md) J (fun k hk=>iJ (aJ (aJ ab ak) G.md) hov41 (by decide) hk)
 refine e (da sW rfl rfl (dG av) hb42 (by simp) fun w6 M hB6=> ?_)
 have aR:Wk w w6:=Md.trans' hE42 M (fun k hk h=>by omega)
 have hrw6:=(hrw42.md M (eE hb42 (by decide))).snoc (n:=x.1) (r:=(bT [] x.2).take n) (v:= .slice j n cp) (by rw [List.length_take,Nat.min_eq_left hn,List.map_take]; exact (Tg.gj (gk (bF ho42f M (fun k hk h=>cG ho42f hb42 (by decide) (h ▸ hk))) hsz)).clip hcp)
 exact nl (bn (⟨(fA.wk E).trans ((fA.wk G.md).trans ((fA.md J (mL hov41)).trans (fA.md M (fun k hk=>⟨_,_,_,hk ▸ hb42⟩)))),bo,vs++ [(x.1,.slice j n cp)],hB6,(by rw [List.map_append,show [x].map Prod.snd= [x.2] from rfl,oq,List.length_map,ae]; rw [List.length_append,FL]; exact bF av M (fun k hk h=>cG av hb42 (by decide) (h ▸ hk))),(by rw [List.map_append,show [x].map Prod.snd= [x.2] from rfl,oq,List.length_map,ae]; exact hrw6),M.aw hbt42 (fun h=>by omega),Nat.le_trans hsz (Nat.le_trans E.size (Nat.le_trans G.md.size (Nat.le_trans J.size M.size))),aR⟩))
 have ae:je x.2 (1 +pre.length)= []:=by unfold je; rw [aH,if_pos (by rw [show n=0 by omega]; rfl)]
 exact aE (bn (⟨fA.wk E,v,vs,hbC,(by rw [List.map_append,show [x].map Prod.snd= [x.2] from rfl,oq,List.length_map,ae]; rw [List.append_nil]; exact hovC),(by rw [List.map_append,show [x].map Prod.snd= [x.2] from rfl,oq,List.length_map,ae]; rw [List.append_nil]; exact hrwC),hbtC,Nat.le_trans hsz E.size,aF⟩))
 intro D I bx am V
 obtain ⟨v,vs,ar,ac,hrw,aq,hsz,al⟩:=am
 have hlt:=(Array.getElem?_eq_some_iff.1 V).1
 refine ef ?_
 refine dZ ?_
 refine eI ?_
 refine rg rfl (p (ld k6 rfl ((aU ar).trans rfl)) (p au (p au (nl (ef ?_)))))
 refine qX ?_
 refine tt rfl rfl rfl V ?_
 have hl:¬65536 < s.length:=by omega
 rw [qF] at ac hrw
 exact ⟨⟨v,by show Value.tuple #[v,.int .i64 0]=_; rw [if_neg hl],by rw [if_neg hl]; exact ⟨vs,gk (bF ac (lI _ _ _) (fun k hk h=>by obtain ⟨c,e,z,h1⟩:=mL ac k hk; rw [h,V] at h1; cases h1)) U.size,(hrw.md (lI _ _ _) (fun k hk cur z=>by rw [hk,V]; simp)).mono U.size⟩⟩,Md.trans' al (lI _ _ _) (fun k hk h=>by have :=U.size; omega)⟩
end Go.Hb.m8
end
section
set_option maxRecDepth 20000
set_option maxHeartbeats 1000000
namespace Go.Hb.jX
open Go.Hb.cU
open Go.Proofs
open Go.Hb.eK Go.Hb.fg Go.Hb.jt Go.Hb.fz Go.Hb.iP Go.Hb.kq Go.Hb.l2 Go.Hb.ju Go.Hb.rv Go.Hb.gX Go.Hb.ry Go.Hb.m8 Go.Hb.m4 Go.Hb.fY Go.Hb.fX
theorem mC {eof ln:Nat} {F F':aH} {hs:List Tx} {rows rows':List Rw} {row:List Tx} (a:bm eof F hs rows ln row= .ok (F',rows')):rows'.length≤rows.length:=by
 unfold bm at a
 repeat' split at a
 · unfold fU at a; split at a; cases a; cases a; exact Nat.le_refl _
 · unfold gy at a; repeat' split at a
   all_goals first | (cases a; done) | (cases a; exact Nat.le_refl _)
 · unfold jk at a; split at a; cases a; cases a; exact Nat.le_refl _
 · unfold jl at a; split at a; cases a; cases a; exact Nat.le_refl _
 · unfold gA at a; repeat' split at a
   all_goals first | (cases a; done) | (cases a; exact Nat.le_refl _)
 · unfold gB at a; repeat' split at a
   all_goals first | (cases a; done) | (cases a; exact (qh _ _ _ (by assumption)).1)
 · unfold ga at a; repeat' split at a
   all_goals first | (cases a; done) | (cases a; exact (qh _ _ _ (by assumption)).1)
 · unfold eQ at a; repeat' split at a
   all_goals first | (cases a; done) | (cases a; exact (qh _ _ _ (by assumption)).1)
theorem qT {eof k:Nat} {F:aH} {hs:List Tx} :ew eof k F hs []= .ok F:=by cases k <;> simp [ew]
section
variable {eof k n:Nat} {F:aH} {hs:List Tx} {r:List Tx} {rest:List Rw} {T:Except (Nat×Nat) aH} (h:ew eof k F hs ((n,r)::rest)=T) (hk:rest.length+1≤k)
include h hk
theorem E4 (h0:width (r.getD 0 [])=0):T= .error (n,110):=by
 obtain ⟨m,rfl⟩:∃ m,k=m+1:=⟨k - 1,by omega⟩
 rw [← h,ew,if_pos h0]
theorem E5 (h0:width (r.getD 0 [])≠0) (h1:r.length≠width (r.getD 0 [])):T= .error (n,111):=by
 obtain ⟨m,rfl⟩:∃ m,k=m+1:=⟨k - 1,by omega⟩
 rw [← h,ew,if_neg h0,if_pos h1]
theorem vE (h0:width (r.getD 0 [])≠0) (h1:r.length=width (r.getD 0 [])) (h2:width (r.getD 0 [])≠4) (h3:r.getD 0 []∈hs):T= .error (n,112):=by
 obtain ⟨m,rfl⟩:∃ m,k=m+1:=⟨k - 1,by omega⟩
 have hw:width (r.getD 0 [])=2:=by
  unfold width at h0 h2 ⊢
  split
  · rfl
  · rename_i hn
    rw [if_neg hn] at h0 h2
    split at h2
    · exact absurd rfl h2
    · rename_i a; rw [if_neg a] at h0; exact absurd rfl h0
 rw [← h,ew,if_neg h0,if_neg (fun h4=>h4 h1),if_pos ⟨hw,h3⟩]
theorem vF {e:Nat×Nat} (h0:width (r.getD 0 [])≠0) (h1:r.length=width (r.getD 0 [])) (h2:width (r.getD 0 [])=2→r.getD 0 []∉hs) (h3:bm eof F hs rest n r= .error e):T= .error e:=by
 obtain ⟨m,rfl⟩:∃ m,k=m+1:=⟨k - 1,by omega⟩
 rw [← h,ew,if_neg h0,if_neg (fun h4=>h4 h1),if_neg (fun h4=>h2 h4.1 h4.2),h3]
theorem vG {F':aH} {rows':List Rw} (h0:width (r.getD 0 [])≠0) (h1:r.length=width (r.getD 0 [])) (h2:width (r.getD 0 [])=2→r.getD 0 []∉hs) (h3:bm eof F hs rest n r= .ok (F',rows')):ew eof (k - 1) F' (hs++ [r.getD 0 []]) rows'=T∧rows'.length≤k - 1:=by
 obtain ⟨m,rfl⟩:∃ m,k=m+1:=⟨k - 1,by omega⟩
 refine ⟨?_,by have :=mC h3; omega⟩
 rw [← h,ew,if_neg h0,if_neg (fun h4=>h4 h1),if_neg (fun h4=>h2 h4.1 h4.2),h3]; rfl
end
theorem xG {s:Tx} (h:65536 < s.length):eo s= .error (0,10):=by unfold eo; rw [if_pos h]
theorem k4 {s:Tx} {e:Nat×Nat} (h:¬65536 < s.length) (h1:ew ((aC s).length+1) (cT s).length fD [] (cT s)= .error e):eo s= .error e:=by unfold eo; rw [if_neg h,h1]
theorem xF {s:Tx} {F:aH} {q:eO} (h:¬65536 < s.length) (h1:ew ((aC s).length+1) (cT s).length fD [] (cT s)= .ok F) (h2:F.rules.find? (iU F)=some q):eo s= .error (q.line,118):=by unfold eo; rw [if_neg h,h1]; simp only; rw [h2]
theorem xJ {s:Tx} {F:aH} (h:¬65536 < s.length) (h1:ew ((aC s).length+1) (cT s).length fD [] (cT s)= .ok F) (h2:F.rules.find? (iU F)=none):eo s= .ok F:=by unfold eo; rw [if_neg h,h1]; simp only; rw [h2]
def kb (s:Tx):Value:=match dW s with | some (.agg cs)=>cs.getD 1 .nilFunc | _=> .nilFunc
theorem CJ (s:Tx):(dW s).getD (.agg #[.int .i64 0,.nilFunc])= .agg [.int .i64 (width s:Nat),kb s].toArray∧(dW s).isSome=decide (width s≠0):=by
 rcases qj s with h | ⟨wd,f,h,hw,h0⟩
 · have h0:=ui h
   unfold kb
   rw [h,h0]; exact ⟨rfl,rfl⟩
 · unfold kb
   rw [h,hw,decide_eq_true h0]; exact ⟨rfl,rfl⟩
theorem CO (s:Tx):[Value.int .i64 (width s:Nat),kb s].all Value.oneCell'=true :=by
 rcases qj s with h | ⟨wd,f,h,hw,h0⟩ <;> unfold kb <;> rw [h] <;> rfl
theorem uh {s:Tx} (h:width s≠0):∃ v,dW s=some v∧∀ (wd:Nat) (f:Nat),v= .agg [.int .i64 (wd:Nat),.func (.func f) #[] #[]].toArray→kb s= .func (.func f) #[] #[]:=by
 rcases qj s with h1 | ⟨wd,f,h1,hw,h0⟩
 · exact absurd (ui h1) h
 · refine ⟨_,h1,fun c a he=> ?_⟩
   unfold kb
   rw [h1,he]; rfl
theorem vR {f:Value→Option Value} {seen:List Tx} (k:Tx) (hf:∀ s:Tx,(f (str s)).getD (.int .i64 0)= .int .i64 (seen.count s:Nat)) (s:Tx):(a3 f (str k) (.int .i64 (seen.count k+1:Nat)) (str s)).getD (.int .i64 0)= .int .i64 ((seen++ [k]).count s:Nat):=by
 rw [List.count_append]
 by_cases h:s=k
 · subst h; rw [mO]; simp
 · rw [lM (fun h2=>h (str_inj.1 h2)),hf s,List.count_singleton,show (k==s)=false from by simpa using fun h2=>h h2.symm]; rfl
theorem bo.vQ {w w':World} {B:Nat} {H:bj} {F:aH} {R:dM} {rows:List Rw} {ln:Nat} {seen seen':List Tx} {f:Value→Option Value} (h:bo w B H F R rows ln seen) (hm:Md (fun k=>k=H.ms) w w') (hf:bl w'.heap H.ms eH f) (hd:∀ s:Tx,(f (str s)).getD (.int .i64 0)= .int .i64 (seen'.count s:Nat)):bo w' B H F R rows ln seen':=by
 obtain ⟨g,hg,hg2⟩:=h.tm
 obtain ⟨f0,c,_⟩:=h.sm
 have hT:TF w [1] (fun k=>k=H.ms):=TF.eq (cg c) (by decide)
 exact ⟨hm.g6 hT h.cells (by decide),h.rws.md hm (fun k hk cur z a=>hT.no (c6 a) (by decide) hk),h.rt.md hm (fun k hk cur z a=>hT.no (c6 a) (by decide) hk),⟨f,hf,hd⟩,⟨g,hg.md hm (fun h2=>h.ne.1 h2.symm),hg2⟩,cB h.on hm hT (by decide),h.lo,h.ne⟩
theorem bH.ms {w w':World} {B:Nat} {H:bj} {F a:aH} {V:db} {R:dM} {rows:List Rw} {ln:Nat} {seen:List Tx} (h:bH w B H.fb H.mc a V) (c:bo w B H F R rows ln seen) (hm:Md (fun k=>k=H.ms) w w'):bH w' B H.fb H.mc a V:=by
 obtain ⟨g,hg,_⟩:=c.sm
 exact h.md (L:= [1]) hm (TF.eq (cg hg) (by decide)) (by decide) (fun h=>c.ne.2.1 h.symm)
theorem cV.ms {w w':World} {B:Nat} {H:bj} {F:aH} {R:dM} {rows:List Rw} {ln:Nat} {seen:List Tx} (a:bo w B H F R rows ln seen) (hm:Md (fun k=>k=H.ms) w w'):cV B H w w':=hm.mono fun k _ hk=>⟨hk ▸ a.lo.2.1,.inl hk⟩
structure jw (w0 w:World) (H:bj) (b2 b3 bt:Nat):Prop where
 c2:w.heap[b2]? =some (.cells [.pointer none].toArray 22 (0,0))
 c3:w.heap[b3]? =some (.cells [.int .i64 0,.int .i64 0,.int .i64 0].toArray 25 (0,0))
 lo:w0.heap.size≤b2∧w0.heap.size≤b3∧b2≠b3
 tb:∃ f,bl w.heap bt eH f∧∀ s,f (str s)=dW s
 ne:bt≠H.ms∧bt≠H.mt∧bt≠H.mc
 wk:Wk w0 w
theorem jw.md {i w w':World} {H:bj} {a c bt:Nat} (h:jw i w H a c bt) (hm:Wk w w'):jw i w' H a c bt:=by
 obtain ⟨f,hf,j⟩:=h.tb
 exact ⟨Wk.aw hm h.c2,Wk.aw hm h.c3,h.lo,⟨f,hf.wk hm,j⟩,h.ne,h.wk.trans hm⟩
theorem jw.mw {a w w':World} {H:bj} {c i bt:Nat} {F:aH} {R:dM} {V:db} {rows:List Rw} {ln:Nat} {seen:List Tx} (h:jw a w H c i bt) (p:bH w a.heap.size H.fb H.mc F V) (j:bo w a.heap.size H F R rows ln seen) (hm:cV a.heap.size H w w'):jw a w' H c i bt:=by
 obtain ⟨f,hf,q⟩:=h.tb
 obtain ⟨f1,hf1,_⟩:=j.sm
 obtain ⟨f2,s,_⟩:=j.tm
 obtain ⟨f3,A,_⟩:=p.cm
 have hn:=fun e (hl:([94,91,165,56,159,157,5]:List Nat).contains (e+2)=false)=>Wr.ne (B:=a.heap.size) (cg hf1) (cg s) (cg A) hl
 refine ⟨hm.aw h.c2 (fun hk=>hn 22 (by decide) _ hk _ _ h.c2),hm.aw h.c3 (fun hk=>hn 25 (by decide) _ hk _ _ h.c3),h.lo,⟨f,hf.md hm ?_,q⟩,h.ne,hm.wk h.wk (Nat.le_refl _)⟩
 rintro ⟨_,h1 | h1 | h1 | h1⟩
 · exact h.ne.1 h1
 · exact h.ne.2.1 h1
 · exact h.ne.2.2 h1
 · rw [cg hf] at h1; exact absurd h1 (by decide)
def xq (w':World) (B:Nat) (F:aH) (v:Value):Prop := ∃ fb mc V,v= .tuple #[.pointer (some ⟨fb,0,none⟩),.agg [.int .i64 0,.int .i64 0,.int .i64 0].toArray]∧bH w' B fb mc F V∧(∃ seen,fV F [] seen)∧Nx F
def xp (e:Nat×Nat) (v:Value):Prop :=v= .tuple #[.pointer none,.agg [.int .i64 1,.int .i64 (e.1:Nat),.int .i64 (e.2:Nat)].toArray]
def j0 (s:Tx) (w:World) (v:Value) (w':World):Prop :=(match eo s with | .ok F=>xq w' w.heap.size F v | .error e=>xp e v)∧Wk w w'
theorem j0.no {s:Tx} {w w':World} {l e:Nat} (h:eo s= .error (l,e)) (hm:Wk w w'):j0 s w (.tuple #[.pointer none,.agg [.int .i64 1,.int .i64 (l:Nat),.int .i64 (e:Nat)].toArray]) w':=by
 unfold j0; rw [h]; exact ⟨rfl,hm⟩
theorem kV {n:Nat} {G:List Nat} {fn:Func} {σ:Nat→Value} {s:Tx} {w W:World} {H:bj} {c i bt l e:Nat} (j:fn.results= #[.cell 2 22,.cell 3 25]) (hlt:3 < n) (p:σ 2= .pointer (some ⟨c,0,none⟩)) (q:σ 3= .pointer (some ⟨i,0,none⟩)) (a:jw w W H c i bt) (A:eo s= .error (l,e)):qb ⟨n,[{target:= .fn (.func 31) #[.pointer (some ⟨c,0,none⟩),.pointer (some ⟨i,0,none⟩)],args:= #[]}],G,none⟩ (jY Tryz.prog fn (j0 s w)) (.panic (eG 25 l (e:Nat))) σ W:=
 E7 j hlt p q ⟨_,a.c2⟩ ⟨_,rfl,a.c3⟩ a.lo.2.2 (fun w' hm=>j0.no A (a.wk.trans' hm (fun k hk h=>by rcases h with rfl | rfl; have :=a.lo.1; omega; have :=a.lo.2.1; omega)))
theorem AK {x:Nat} (h:x≠0):cX fD x=false :=by
 unfold cX fD dE
 simp [h]
theorem Wk.dr {w:World} :Wk w w.drew:=(Md.refl _ _).drew
theorem ky (s:Tx) (w:World) (hs:s.length≤1048576):
 aT Tryz.prog 10 (List.toArray [str s]) w (j0 s w):=by
 refine Bf [2,3] Tryz.func10 rfl Tryz.ntmps10 rfl ?_
 refine dZ ?_
 refine eI ?_
 refine rg rfl (e (fZ Ha fun ak dW hb2 bS hB2=>e (fZ fy fun am w3 dy a0 cf=> ?_)))
 have hz2:=bS.size
 have hz3:=a0.size
 have co:Wk w w3:=bS.md.trans a0.md
 have hp2:=Wk.aw a0.md hB2
 refine nl (ef ?_)
 refine dZ ?_
 refine eI ?_
 refine rg rfl (p (az (str s) rfl) (e (cl sw (vL s _ hs) rfl fun dM w15 cB=> ?_)))
 obtain ⟨⟨dp,rfl,hcs⟩,hE15⟩:=cB
 have hE15x:=co.trans hE15
 have hq2:=Wk.aw hE15 hp2
 have hq3:=Wk.aw hE15 cf
 have hz15:=hE15.size
 refine p mv (p (xt rfl rfl) (p (xt rfl rfl) (p au (p au (nl (ef ?_))))))
 refine dZ ?_
 refine dZ ?_
 refine eI ?_
 refine rg rfl (p mv (p (dt rfl rfl) (nl (ef ?_))))
 refine eI ?_
 refine cd rfl (fun a8=> ?_) (fun a8=> ?_)
 have bV:65536 < s.length:=Classical.byContradiction fun h=>a8 (by rw [if_neg h])
 refine sq (fun b1 aS=>rg rfl (p mv (p (cz (ps:= [(0,.int .i64 1),(2,.int .i64 (if 65536 < s.length then 10 else 0))]) (L:= [.int .i64 1,.int .i64 0,.int .i64 (if 65536 < s.length then 10 else 0)]) lQ rfl (rfl)) (e (da pK rfl rfl (v:= .pointer none) rfl hq2 (by decide) fun w5 bQ cj=>e (gn dO rfl rfl rfl rfl (bQ.aw hq3 (fun h=>by omega)) (by decide) fun w6 bR hB6=>nl (tn (aS _ _ ?_))))))))
 refine rt (qS ?_)
 exact BD (ot rfl (ik (qW rfl rfl ((aU (bR.aw cj (fun h=>by omega))).trans rfl))) (ik (dd rfl rfl rfl (fun j dE=>by rw [Nat.zero_add,aU hB6,if_pos bV]; simp)))) (j0.no (xG bV) ((hE15x.trans' bQ (fun k hk h=>by omega)).trans' bR (fun k hk h=>by omega)))
 have ac:¬65536 < s.length:=fun h=>a8 (by rw [if_pos h]; decide)
 rw [if_neg ac] at hcs
 obtain ⟨vs,bZ,cU⟩:=hcs
 obtain ⟨aL,aM,rfl⟩:=cH bZ
 refine aE (ef ?_)
 refine dZ ?_
 refine eI ?_
 refine rg rfl (p (az (str s) rfl) (e (cl sx (wa s _ hs) rfl fun dQ b0 cC=> ?_)))
 obtain ⟨⟨dq,rfl,bX⟩,hE24⟩:=cC
 rw [if_neg ac] at bX
 obtain ⟨dH,ds,rfl⟩:=cH bX
 have hE24x:=hE15x.trans hE24
 have hll:=ib s
 have hz24:=hE24.size
 refine p mv (p (xt rfl rfl) (p (xt rfl rfl) (p au (p au (nl (ef ?_))))))
 refine dZ ?_
 refine eI ?_
 refine rg rfl (e (mI fun J dY dw bT cc=> ?_))
 have hz27:=bT.size
 refine p (cz (ps:= [(1,.map (some J))]) (L:= [.int .i64 0,.string ⟨⟨[]⟩⟩,.string ⟨⟨[]⟩⟩,.int .u16 0,.int .u16 0,.int .u16 0,.int .u16 0,.int .u16 0,.int .i64 0,.slice none 0 0,.slice none 0 0,.slice none 0 0,.slice none 0 0,.map (some J)]) Gi rfl (rfl)) (e (o8 rfl fun G w29 dx aZ ce=> ?_))
 have hz29:=aZ.size
 refine p mv (p mv (p (bp ea rfl rfl) (p (bd (((aC s).length+1:Nat):Int) rfl rfl (aO (by omega) (by omega))) (e (mI fun O d0 dz aN ch=> ?_)))))
 have hz34:=aN.size
 refine e (mI fun U w35 dA ax ci=> ?_)
 have hz35:=ax.size
 refine p (cz (ps:= [(0,.pointer (some ⟨G,0,none⟩)),(1,.slice aL (cT s).length aM),(3,.int .i64 ((aC s).length+1:Nat)),(4,.map (some O)),(5,.map (some U))]) (L:= [.pointer (some ⟨G,0,none⟩),.slice aL (cT s).length aM,.int .i64 0,.int .i64 ((aC s).length+1:Nat),.map (some O),.map (some U),.slice none 0 0]) Gj rfl (rfl)) (e (o8 rfl fun A w37 dB aq aR=> ?_))
 have hz37:=aq.size
 have hf37:=Wk.aw (aN.md.trans (ax.md.trans aq.md)) ce
 refine p au (nl (ef ?_))
 refine dZ ?_
 refine eI ?_
 have aa:(fun w'=>Md (fun k=>k=G) w37 w') w37.drew:=(Md.refl _ _).drew
 refine bI (fun w'=>Md (fun k=>k=G) w37 w') rfl wide aa (hp 0 rfl (by kernel_rfl) (fun _ _=>mv) aa (hp 1 rfl (by kernel_rfl) (fun _ _=>nc rfl) aa (hp 2 rfl (by kernel_rfl) (fun _ _=>fa dP rfl) aa (hp 3 rfl (by kernel_rfl) (fun w' I=>ld dC rfl (Md.aA I ((aU aR).trans rfl) (fun h=>by omega))) aa (hp 4 rfl (by kernel_rfl) (fun _ _=>mv) aa (hp 5 rfl (by kernel_rfl) (fun _ _=>nc rfl) aa (hp 6 rfl (by kernel_rfl) (fun _ _=>fa dP rfl) aa ?_)))))))
 refine hp 7 rfl (by kernel_rfl) (fun w' I=>ld dC rfl (Md.aA I ((aU aR).trans rfl) (fun h=>by omega))) aa (hp 8 rfl (by kernel_rfl) (fun _ _=>nc rfl) aa (hp 9 rfl (by kernel_rfl) (fun _ _=>fa dF rfl) aa (hp 10 rfl (by kernel_rfl) (fun _ _=>fa lB rfl) aa (he 11 rfl (by kernel_rfl) (da iD rfl rfl (v:= .int .i64 (1:Nat)) rfl hf37 (by show 0 +0 +0 < 14; decide) fun w8 cx ck=> ?_)))))
 have ay:(fun w'=>Md (fun k=>k=G) w37 w') w8:=aa.trans' cx (fun _ _ h=>h)
 refine ⟨ay,?_⟩
 refine hp 12 rfl (by kernel_rfl) (fun _ _=>nc rfl) ay (hp 13 rfl (by kernel_rfl) (fun _ _=>fa dF rfl) ay (hp 14 rfl (by kernel_rfl) (fun _ _=>fa p9 rfl) ay (he 15 rfl (by kernel_rfl) (da iD rfl rfl (v:= .int .i64 (3:Nat)) rfl ck (by show _ < 14; decide) fun w9 hM9 cn=> ?_))))
 have a7:(fun w'=>Md (fun k=>k=G) w37 w') w9:=ay.trans' hM9 (fun _ _ h=>h)
 refine ⟨a7,?_⟩
 refine hn (by kernel_rfl) (ef ?_)
 refine dZ ?_
 refine AR Dy #[.pointer (some ⟨ak,0,none⟩),.pointer (some ⟨am,0,none⟩)] rfl (by decide) ?_
 refine dZ ?_
 refine eI ?_
 refine rg rfl (e (cl y0 (CM _) rfl fun dR w53 cD=> ?_))
 obtain ⟨bt,rfl,dD,c5,bC⟩:=cD
 have cp:Wk b0 w37:=bT.md.trans (aZ.md.trans (aN.md.trans (ax.md.trans aq.md)))
 have ap:Md (fun k=>k=G) w37 w53:=a7.trans' bC (fun _ _ h=>h.elim)
 have av:Wk b0 w53:=Md.trans' cp ap (fun k hk h=>by omega)
 have hsz53:=ap.size
 have hE53x:=hE24x.trans av
 have cK:w53.heap[G]? =some (.cells (jb fD ⟨.slice none 0 0,.slice none 0 0,.slice none 0 0,.slice none 0 0,[],[]⟩ J).toArray 89 (0,0)):=Wk.aw bC cn
 have hcr:w53.heap[A]? =some (.cells (mQ (⟨A,G,O,U,J,(aC s).length+1⟩:bj) ⟨.slice aL (cT s).length aM,vs,.slice none 0 0⟩ 0).toArray 92 (0,0)):=ap.aw aR (fun h=>by omega)
 have cO:bl w53.heap J (jO .u16) (fun _=>none):=bl.md (bl.wk (bl.nil cc) (aZ.md.trans (aN.md.trans (ax.md.trans aq.md)))) ap (fun h=>by omega)
 have cP:bl w53.heap O eH (fun _=>none):=bl.md (bl.wk (bl.nil ch) (ax.md.trans aq.md)) ap (fun h=>by omega)
 have cQ:bl w53.heap U (jO .u16) (fun _=>none):=bl.md (bl.wk (bl.nil ci) aq.md) ap (fun h=>by omega)
 have cq:bH w53 w.heap.size G J fD ⟨.slice none 0 0,.slice none 0 0,.slice none 0 0,.slice none 0 0,[],[]⟩:=⟨cK,World.ownsRow_nil _ _ _ _,World.ownsRow_nil _ _ _ _,bN.nil _ _ _,World.ownsRow_nil _ _ _ _,World.ownsRow_nil _ _ _ _,bN.nil _ _ _,⟨_,cO,fun _=>rfl⟩,⟨by omega,by omega⟩,rfl⟩
 have hR0:bo w53 w.heap.size (⟨A,G,O,U,J,(aC s).length+1⟩:bj) fD ⟨.slice aL (cT s).length aM,vs,.slice none 0 0⟩ (cT s) 0 []:=⟨hcr,(((Tg.gj bZ).mono (by omega)).wk (hE24.trans av)).Gu,(cU.mono (by omega)).wk (hE24.trans av),⟨_,cP,fun _=>rfl⟩,⟨_,cQ,fun x bs=>by rw [AK bs]; rfl⟩,World.ownsRow_nil _ _ _ _,⟨by show w.heap.size≤A; omega,by show w.heap.size≤O; omega,by show w.heap.size≤U; omega⟩,⟨by show O≠U; omega,by show O≠J; omega,by show U≠J; omega⟩⟩
 have hrl:=vJ s
 have cJ:St w53 w.heap.size (⟨A,G,O,U,J,(aC s).length+1⟩:bj) fD (cT s) 0 []:=⟨_,_,cq,hR0,⟨by show 0 +0 +0 +0 +(cT s).length≤70000; omega,by show 0 +(cT s).length≤70000; omega,fun q bk=>by have h:=vK bk; exact ⟨h.2.2.1,by omega,fun x bs=>by have :=(h.2.2.2.2 x bs).2; omega⟩,.inl rfl,fun l hl=>by cases hl⟩⟩
 have c4:fC fD []:=fun k hk _=>by have h:∀ k∈dK,fD.sp.getD (dK.idxOf k) 0=0:=by decide
                                  exact h k hk
 have cR:Nx fD:=⟨fun l hl=>(by cases hl),fun l hl=>(by cases hl)⟩
 have hsz9:=a7.size
 have cS:jw w w53 (⟨A,G,O,U,J,(aC s).length+1⟩:bj) ak am bt:=⟨Wk.aw (hE24.trans av) hq2,Wk.aw (hE24.trans av) hq3,⟨by omega,by omega,by omega⟩,c5,⟨by show bt≠O; omega,by show bt≠U; omega,by show bt≠J; omega⟩,hE53x⟩
 refine p au (nl (ef ?_))
 refine dZ ?_
 refine eI ?_
 refine aw (lp (fun bB aJ wI=> ∃ (k:Nat) (F:aH) (rows:List Rw) (ln:Nat) (seen:List Tx),(ew (⟨A,G,O,U,J,(aC s).length+1⟩:bj).eof k F seen rows=ew ((aC s).length+1) (cT s).length fD [] (cT s))∧(rows.length≤k)∧(St wI w.heap.size (⟨A,G,O,U,J,(aC s).length+1⟩:bj) F rows ln seen)∧(fC F seen)∧(Nx F)∧(jw w wI (⟨A,G,O,U,J,(aC s).length+1⟩:bj) ak am bt)∧(aJ 2= .pointer (some ⟨ak,0,none⟩))∧(aJ 3= .pointer (some ⟨am,0,none⟩))∧(aJ 8= .pointer (some ⟨A,0,none⟩))∧(aJ 9= .map (some bt))∧(rows.length=bB)) _ ⟨(cT s).length,fD,cT s,0,[],rfl,(Nat.le_refl _),cJ,c4,cR,cS,rfl,rfl,rfl,rfl,rfl⟩ ?_)
 rintro bB aJ wI ⟨k,F,rows,ln,seen,hX,hk,I,aP,hnx,bi,cW,cX,cY,cZ,rfl⟩
 refine fx 2 cW (fx 3 cX (fx 8 cY (fx 9 cZ ?_)))
 obtain ⟨V,R,M,ag,an⟩:=I
 obtain ⟨vr,vs,vn⟩:=R
 obtain ⟨bx,cr1,hv⟩:=ag.rws.slice
 obtain rfl :vr= .slice bx rows.length cr1:=hv
 refine sq (fun b1 aS=>sq (fun df cr=>rg rfl (p (az (.pointer (some ⟨A,0,none⟩)) rfl) (p (nc rfl) (p (fa mA rfl) (p (ld k6 rfl ((aU ag.cells).trans rfl)) (p (bp oK rfl rfl) ?_)))))))
 refine p (gt rfl rfl) (nl (tn (cr _ _ (cd rfl (fun a9=> ?_) (fun a9=> ?_)))))
 obtain ⟨⟨n,r⟩,rest,rfl⟩:∃ q rest,rows=q::rest:=by
  cases rows with
  | nil=>exact absurd a9 (by simp)
  | cons q rest=>exact ⟨q,rest,rfl⟩
 have hrow:=an.row (n,r) (List.mem_cons_self ..)
 have hbl:=an.len
 have hbs:=an.sl
 simp only [List.length_cons] at hbl hbs hk
 refine aE (tn (aS _ _ (aw (sq (fun dg cs=>rg rfl (p (az (.pointer (some ⟨A,0,none⟩)) rfl) (e (cl sy (wm w.heap.size (⟨A,G,O,U,J,(aC s).length+1⟩:bj) F ⟨.slice bx (rest.length+1) cr1,vs,vn⟩ n r rest ln seen wI ag) rfl fun dT dc cF=> ?_))))))))
 obtain ⟨⟨R1,hR1⟩,hT1,hM1⟩:=cF
 obtain ⟨bw,bA,rfl⟩:=hT1.slice
 have hF1:=M.rb ag hM1
 have hob1:=bi.mw M ag (cV.rb ag hM1)
 have dG:0 < r.length:=List.length_pos_iff.2 hrow.1
 have hB1:=fV.lu an
 have hval:=CJ (r.getD 0 [])
 obtain ⟨dv,cN,bY⟩:=hob1.tb
 refine p au (nl (tn (cs _ _ (sq (fun dh ct=>rg rfl (p (az (.map (some bt)) rfl) (p mv (p (aK bO rfl rfl (by omega) (ao.ok (hT1.bK.2) (bL (by omega)))) ?_))))))))
 refine p (ld bW rfl (bh.get (i:=0) hT1.bK.2 (by omega))) (p (uO gC Ho eu (cN) rfl rfl (⟨_,rfl⟩) ((congrArg (fun o=>Option.getD o _) (bY (r.getD 0 []))).trans hval.1) ((congrArg Option.isSome (bY (r.getD 0 []))).trans hval.2)) (p mv (p (xt rfl rfl) (p (xt rfl rfl) (e (fZ Hi fun b5 w11 hb11 cy b8=>e (gn AF rfl rfl rfl (CO _) b8 (by decide) fun w12 cw b9=> ?_)))))))
 have hE12:Wk dc w12:=cy.md.trans' cw (fun k hk h=>by omega)
 have hb12:w12.heap[b5]? =some (.cells [.int .i64 (width (r.getD 0 []):Nat),kb (r.getD 0 [])].toArray 99 (0,0)):=b9
 have hF2:=hF1.wk hE12
 have hR2:=hR1.wk hE12
 have hT2:=hT1.wk hE12
 have hob2:=hob1.md hE12
 refine p au (nl (tn (ct _ _ (sq (fun dk cu=>rg rfl (p (az (.pointer (some ⟨A,0,none⟩)) rfl) (p mv ?_)))))))
 refine eP rfl (bE dS (dX A n _ 110 w12 hR2.cE (by decide)) rfl fun dU de cG=> ?_) (fun c w' Z ar M=>by
  obtain ⟨rfl,hb,rfl⟩:=Z
  exact kV rfl (by decide) ((M 2 (.head _)).trans rfl) ((M 3 (.tail _ (.head _))).trans rfl) hob2 (k4 ac (E4 hX hk (Classical.not_not.1 (of_decide_eq_false hb)))))
 obtain ⟨rfl,ab,rfl⟩:=cG
 have ab:width (r.getD 0 [])≠0:=of_decide_eq_true ab
 refine nl (tn (cu _ _ (sq (fun dl cv=>rg rfl (p (az (.pointer (some ⟨A,0,none⟩)) rfl) (p mv (p (bp ea rfl rfl) (p (fa tR rfl) ?_))))))))
 refine p (ld dN rfl ((aU hb12).trans rfl)) (p (bu rfl rfl) ?_)
 refine eP rfl (bE dS (dX A n _ 111 de hR2.cE (by decide)) rfl fun dV ah cI=> ?_) (fun c w' Z ar M=>by
  obtain ⟨rfl,hb,rfl⟩:=Z
  exact kV rfl (by decide) ((M 2 (.head _)).trans rfl) ((M 3 (.tail _ (.head _))).trans rfl) hob2 (k4 ac (E5 hX hk ab (fun h=>of_decide_eq_false hb (by rw [h])))))
 obtain ⟨rfl,ad,rfl⟩:=cI
 have ad:r.length=width (r.getD 0 []):=by have :=of_decide_eq_true ad; omega
 refine nl (tn (cv _ _ (sq (fun dm bF=> ?_))))
 obtain ⟨dJ,c0,c1⟩:=hR2.sm
 have C:(fun w'=>Wk ah w') ah.drew:=(Md.refl _ _).drew
 refine bI (fun w'=>Wk ah w') rfl wide C (hp 0 rfl (by kernel_rfl) (fun _ _=>az (.pointer (some ⟨A,0,none⟩)) rfl) C (hp 1 rfl (by kernel_rfl) (fun _ _=>fa tR rfl) C (hp 2 rfl (by kernel_rfl) (fun w' I=>ld dN rfl (Wk.aA I ((aU hb12).trans rfl))) C (hp 3 rfl (by kernel_rfl) (fun _ _=>bu rfl rfl) C (hp 4 rfl (by kernel_rfl) (fun _ _=>mv) C (iG (t:=84) rfl (fun aF=> ?_) (fun aF=> ?_)))))))
 refine aX 5 rfl (by kernel_rfl) rfl rfl rfl rfl C ?_
 refine aX 6 rfl (by kernel_rfl) rfl rfl rfl rfl C ?_
 refine aX 7 rfl (by kernel_rfl) rfl rfl rfl rfl C ?_
 refine aX 8 rfl (by kernel_rfl) rfl rfl rfl rfl C ?_
 refine aX 9 rfl (by kernel_rfl) rfl rfl rfl rfl C ?_
 refine aX 10 rfl (by kernel_rfl) rfl rfl rfl rfl C ?_
 refine aX 11 rfl (by kernel_rfl) rfl rfl rfl rfl C ?_
 refine aX 12 rfl (by kernel_rfl) rfl rfl rfl rfl C ?_
 refine aX 13 rfl (by kernel_rfl) rfl rfl rfl rfl C ?_
 refine hp 14 rfl (by kernel_rfl) (fun _ _=>bz rfl) C ?_
 refine lE 15 rfl (by kernel_rfl) rfl (bE dS (dX A n _ 112 ah.drew (Wk.aA C hR2.cE) (by decide)) rfl fun db w95 a4=> ?_) (fun c w' Z ar M=>by
  obtain ⟨rfl,hb,rfl⟩:=Z
  first
   | exact absurd hb (by decide)
   | exact kV rfl (by decide) ((M 2 (.head _)).trans rfl) ((M 3 (.tail _ (.head _))).trans rfl) (hob2.md Wk.dr) (k4 ac (vE hX hk ab ad (fun h=>aF (by rw [h]; rfl)) (Classical.not_not.1 fun h=>of_decide_eq_false hb (by rw [List.count_eq_zero.2 h]; rfl)))))
 obtain ⟨rfl,bv,aG⟩:=a4
 have ai:width (r.getD 0 [])=2→r.getD 0 []∉seen:=by
  first
   | exact fun h=>absurd aF (by omega)
   | exact fun _=>List.count_eq_zero.1 (by have :=of_decide_eq_true bv; omega)
 have hE95:Wk ah w95:=by rw [aG]; exact Wk.dr
 obtain ⟨c7,bg,bf⟩:=uh ab
 obtain ⟨b6,br,ba,bb⟩:=um w.heap.size (⟨A,G,O,U,J,(aC s).length+1⟩:bj) F rest n seen r w.heap.size bw bA w95 ⟨_,_,hF2.wk hE95,hR2.wk hE95,hB1⟩ (hT2.wk hE95) hrow.2.2 ad aP ai (by omega) bg
 have hfv:=bf _ _ br
 have a6:(fun w'=>Wk ah w') w95:=by rw [aG]; exact C
 refine ⟨a6,?_⟩
 refine hn (by kernel_rfl) (tn (bF _ _ (sq (fun b2 aV=>rg rfl (p (fa tS rfl) (p (ld rL rfl ((aU (Wk.aw hE95 hb12)).trans (congrArg some hfv))) (p (az (.pointer (some ⟨A,0,none⟩)) rfl) (p mv ?_))))))))
 refine eP rfl (xe ba rfl bb rfl fun c9 aj a2=> ?_) (fun c w' Z ar M=>by
  obtain ⟨l,e,Y,rfl,hMw3⟩:=Z
  exact kV rfl (by decide) ((M 2 (.head _)).trans rfl) ((M 3 (.tail _ (.head _))).trans rfl) ((hob2.md hE95).mw (hF2.wk hE95) (hR2.wk hE95) hMw3) (k4 ac (vF hX hk ab ad ai Y)))
 obtain ⟨rfl,F',rows',ln',Y,⟨b3,aQ,hF3,hR3,ae⟩,hMw3⟩:=a2
 have hob3:=(hob2.md hE95).mw (hF2.wk hE95) (hR2.wk hE95) hMw3
 obtain ⟨q1,hq1,_⟩:=hR2.sm
 obtain ⟨q2,bm,_⟩:=hR2.tm
 obtain ⟨c8,bq,_⟩:=hF2.cm
 have hT3:=(hT2.wk hE95).md hMw3 (Wr.ne (cg (hq1.wk hE95)) (cg (bm.wk hE95)) (cg (bq.wk hE95)) (by decide))
 obtain ⟨b7,aB,aD⟩:=hR3.sm
 have hcl:=List.count_le_length (a:=r.getD 0 []) (l:=seen)
 have hXn:=vG hX hk ab ad ai Y
 refine nl (tn (aV _ _ ?_))
 have E:(fun w'=>Wk aj w') aj.drew:=(Md.refl _ _).drew
 refine dj (fun w'=>Wk aj w') 9 rfl wide E (lq 0 rfl (by kernel_rfl) (fun _ _=>az (.pointer (some ⟨A,0,none⟩)) rfl) E (lq 1 rfl (by kernel_rfl) (fun _ _=>nc rfl) E (lq 2 rfl (by kernel_rfl) (fun _ _=>fa lD rfl) E (lq 3 rfl (by kernel_rfl) (fun w' I=>ld k8 rfl (Wk.aA I ((aU hR3.cells).trans rfl))) E (lq 4 rfl (by kernel_rfl) (fun _ _=>mv) E (lq 5 rfl (by kernel_rfl) (fun _ _=>aK bO rfl rfl (by omega) (ao.ok (ao.wk hT3.bK.2 E) (bL (by omega)))) E (lq 6 rfl (by kernel_rfl) (fun w' I=>ld bW rfl (Wk.aA I (bh.get (i:=0) hT3.bK.2 (by omega)))) E ?_)))))))
 refine lq 7 rfl (by kernel_rfl) (fun w' I=>jf ko js eu (bl.md (aB) I id) rfl rfl (⟨_,rfl⟩) (aD (r.getD 0 []))) E (lq 8 rfl (by kernel_rfl) (fun _ _=>bd ((seen.count (r.getD 0 [])+1:Nat):Int) rfl rfl (aO (by omega) (by omega))) E (bP 9 rfl (by kernel_rfl) (by kernel_rfl) (lV ko eu (aB.wk E) rfl rfl rfl (⟨_,rfl⟩) fun aI aW a1=> ?_)))
 have hM16:=e5 aW
 have a3:bo aI w.heap.size (⟨A,G,O,U,J,(aC s).length+1⟩:bj) F' aQ rows' ln' (seen++ [r.getD 0 []]):=bo.vQ hR3 hM16 a1 (vR _ aD)
 have hF16:=bH.ms hF3 hR3 hM16
 have hob16:=hob3.mw hF3 hR3 (cV.ms hR3 hM16)
 have hrw:=mC Y
 have E:St aI w.heap.size (⟨A,G,O,U,J,(aC s).length+1⟩:bj) F' rows' ln' (seen++ [r.getD 0 []]):=⟨_,_,hF16,a3,⟨ae.len,by rw [List.length_append,List.length_singleton]; omega,ae.row,ae.kd,ae.al⟩⟩
 have hsp16:=uj aP Y
 have hnx16:=qk hnx Y
 refine di (by kernel_rfl) ?_
 exact bn (tn (⟨_,by simp only [List.length_cons]; have :=mC Y; omega,k - 1,F',rows',ln',seen++ [r.getD 0 []],hXn.1,hXn.2,E,hsp16,hnx16,hob16,rfl,rfl,rfl,rfl,rfl⟩))
 refine a5 5 rfl (by kernel_rfl) rfl rfl rfl (fun _ _=>az (.pointer (some ⟨A,0,none⟩)) rfl) C (a5 6 rfl (by kernel_rfl) rfl rfl rfl (fun _ _=>nc rfl) C (a5 7 rfl (by kernel_rfl) rfl rfl rfl (fun _ _=>fa lD rfl) C (a5 8 rfl (by kernel_rfl) rfl rfl rfl (fun w' I=>ld k8 rfl (Wk.aA I ((aU hR2.cells).trans rfl))) C (a5 9 rfl (by kernel_rfl) rfl rfl rfl (fun _ _=>mv) C (a5 10 rfl (by kernel_rfl) rfl rfl rfl (fun _ _=>aK bO rfl rfl (by omega) (ao.ok (ao.wk hT2.bK.2 C) (bL (by omega)))) C (a5 11 rfl (by kernel_rfl) rfl rfl rfl (fun w' I=>ld bW rfl (Wk.aA I (bh.get (i:=0) hT2.bK.2 (by omega)))) C (a5 12 rfl (by kernel_rfl) rfl rfl rfl (fun w' I=>jf ko js eu (bl.md (c0) I id) rfl rfl (⟨_,rfl⟩) (c1 (r.getD 0 []))) C ?_)))))))
 refine a5 13 rfl (by kernel_rfl) rfl rfl rfl (fun _ _=>bu rfl rfl) C (hp 14 rfl (by kernel_rfl) (fun _ _=>bc rfl) C ?_)
 refine lE 15 rfl (by kernel_rfl) rfl (bE dS (dX A n _ 112 ah.drew (Wk.aA C hR2.cE) (by decide)) rfl fun db w95 a4=> ?_) (fun c w' Z ar M=>by
  obtain ⟨rfl,hb,rfl⟩:=Z
  first
   | exact absurd hb (by decide)
   | exact kV rfl (by decide) ((M 2 (.head _)).trans rfl) ((M 3 (.tail _ (.head _))).trans rfl) (hob2.md Wk.dr) (k4 ac (vE hX hk ab ad (fun h=>aF (by rw [h]; rfl)) (Classical.not_not.1 fun h=>of_decide_eq_false hb (by rw [List.count_eq_zero.2 h]; rfl)))))
 obtain ⟨rfl,bv,aG⟩:=a4
 have ai:width (r.getD 0 [])=2→r.getD 0 []∉seen:=by
  first
   | exact fun h=>absurd aF (by omega)
   | exact fun _=>List.count_eq_zero.1 (by have :=of_decide_eq_true bv; omega)
 have hE95:Wk ah w95:=by rw [aG]; exact Wk.dr
 obtain ⟨c7,bg,bf⟩:=uh ab
 obtain ⟨b6,br,ba,bb⟩:=um w.heap.size (⟨A,G,O,U,J,(aC s).length+1⟩:bj) F rest n seen r w.heap.size bw bA w95 ⟨_,_,hF2.wk hE95,hR2.wk hE95,hB1⟩ (hT2.wk hE95) hrow.2.2 ad aP ai (by omega) bg
 have hfv:=bf _ _ br
 have a6:(fun w'=>Wk ah w') w95:=by rw [aG]; exact C
 refine ⟨a6,?_⟩
 refine hn (by kernel_rfl) (tn (bF _ _ (sq (fun b2 aV=>rg rfl (p (fa tS rfl) (p (ld rL rfl ((aU (Wk.aw hE95 hb12)).trans (congrArg some hfv))) (p (az (.pointer (some ⟨A,0,none⟩)) rfl) (p mv ?_))))))))
 refine eP rfl (xe ba rfl bb rfl fun c9 aj a2=> ?_) (fun c w' Z ar M=>by
  obtain ⟨l,e,Y,rfl,hMw3⟩:=Z
  exact kV rfl (by decide) ((M 2 (.head _)).trans rfl) ((M 3 (.tail _ (.head _))).trans rfl) ((hob2.md hE95).mw (hF2.wk hE95) (hR2.wk hE95) hMw3) (k4 ac (vF hX hk ab ad ai Y)))
 obtain ⟨rfl,F',rows',ln',Y,⟨b3,aQ,hF3,hR3,ae⟩,hMw3⟩:=a2
 have hob3:=(hob2.md hE95).mw (hF2.wk hE95) (hR2.wk hE95) hMw3
 obtain ⟨q1,hq1,_⟩:=hR2.sm
 obtain ⟨q2,bm,_⟩:=hR2.tm
 obtain ⟨c8,bq,_⟩:=hF2.cm
 have hT3:=(hT2.wk hE95).md hMw3 (Wr.ne (cg (hq1.wk hE95)) (cg (bm.wk hE95)) (cg (bq.wk hE95)) (by decide))
 obtain ⟨b7,aB,aD⟩:=hR3.sm
 have hcl:=List.count_le_length (a:=r.getD 0 []) (l:=seen)
 have hXn:=vG hX hk ab ad ai Y
 refine nl (tn (aV _ _ ?_))
 have E:(fun w'=>Wk aj w') aj.drew:=(Md.refl _ _).drew
 refine dj (fun w'=>Wk aj w') 9 rfl wide E (lq 0 rfl (by kernel_rfl) (fun _ _=>az (.pointer (some ⟨A,0,none⟩)) rfl) E (lq 1 rfl (by kernel_rfl) (fun _ _=>nc rfl) E (lq 2 rfl (by kernel_rfl) (fun _ _=>fa lD rfl) E (lq 3 rfl (by kernel_rfl) (fun w' I=>ld k8 rfl (Wk.aA I ((aU hR3.cells).trans rfl))) E (lq 4 rfl (by kernel_rfl) (fun _ _=>mv) E (lq 5 rfl (by kernel_rfl) (fun _ _=>aK bO rfl rfl (by omega) (ao.ok (ao.wk hT3.bK.2 E) (bL (by omega)))) E (lq 6 rfl (by kernel_rfl) (fun w' I=>ld bW rfl (Wk.aA I (bh.get (i:=0) hT3.bK.2 (by omega)))) E ?_)))))))
 refine lq 7 rfl (by kernel_rfl) (fun w' I=>jf ko js eu (bl.md (aB) I id) rfl rfl (⟨_,rfl⟩) (aD (r.getD 0 []))) E (lq 8 rfl (by kernel_rfl) (fun _ _=>bd ((seen.count (r.getD 0 [])+1:Nat):Int) rfl rfl (aO (by omega) (by omega))) E (bP 9 rfl (by kernel_rfl) (by kernel_rfl) (lV ko eu (aB.wk E) rfl rfl rfl (⟨_,rfl⟩) fun aI aW a1=> ?_)))
 have hM16:=e5 aW
 have a3:bo aI w.heap.size (⟨A,G,O,U,J,(aC s).length+1⟩:bj) F' aQ rows' ln' (seen++ [r.getD 0 []]):=bo.vQ hR3 hM16 a1 (vR _ aD)
 have hF16:=bH.ms hF3 hR3 hM16
 have hob16:=hob3.mw hF3 hR3 (cV.ms hR3 hM16)
 have hrw:=mC Y
 have E:St aI w.heap.size (⟨A,G,O,U,J,(aC s).length+1⟩:bj) F' rows' ln' (seen++ [r.getD 0 []]):=⟨_,_,hF16,a3,⟨ae.len,by rw [List.length_append,List.length_singleton]; omega,ae.row,ae.kd,ae.al⟩⟩
 have hsp16:=uj aP Y
 have hnx16:=qk hnx Y
 refine di (by kernel_rfl) ?_
 exact bn (tn (⟨_,by simp only [List.length_cons]; have :=mC Y; omega,k - 1,F',rows',ln',seen++ [r.getD 0 []],hXn.1,hXn.2,E,hsp16,hnx16,hob16,rfl,rfl,rfl,rfl,rfl⟩))
 obtain rfl :rows= []:=by
  cases rows with
  | nil=>rfl
  | cons q rest=>exact absurd (by simp only [List.length_cons]; omega) a9
 rw [qT] at hX
 refine ext (te _ (te _ (be (ef ?_))))
 refine dZ ?_
 refine eI ?_
 refine rg rfl (p (az (.pointer (some ⟨A,0,none⟩)) rfl) ?_)
 refine eP rfl (bE y1 (zx w.heap.size (⟨A,G,O,U,J,(aC s).length+1⟩:bj) F [] ln seen wI ⟨_,_,M,ag,an⟩ hnx.2) rfl fun dL w111 cA=> ?_) (fun c w' Z ar bD=>by
  obtain ⟨q,bk,rfl,aY⟩:=Z
  exact kV rfl (by decide) ((bD 2 (.head _)).trans rfl) ((bD 3 (.tail _ (.head _))).trans rfl) (bi.mw M ag aY) (xF ac hX.symm bk))
 obtain ⟨rfl,cL,⟨b4,dn,dI,hF4,hR4⟩,aY⟩:=cA
 have hob4:=bi.mw M ag aY
 have hlo4:=hob4.lo
 refine nl (ef ?_)
 refine dZ ?_
 refine eI ?_
 refine rg rfl (p (az (.pointer (some ⟨A,0,none⟩)) rfl) (p (nc rfl) (p (fa dP rfl) (p (ld dC rfl ((aU hR4.cells).trans rfl)) (p (cz (ps:= []) (L:= [.int .i64 0,.int .i64 0,.int .i64 0]) lQ rfl (rfl)) (e (da pK rfl rfl (v:= .pointer (some ⟨G,0,none⟩)) rfl hob4.c2 (by decide) fun w20 bG ca=>e (gn dO rfl rfl rfl rfl (bG.aw hob4.c3 (fun h=>by omega)) (by decide) fun w21 bJ cb=> ?_))))))))
 have bM:Md (fun k=>k=ak∨k=am) w111 w21:=(bG.mono (fun _ _ h=> .inl h)).trans' bJ (fun _ _ h=> .inr h)
 refine nl (ef ?_)
 refine qX ?_
 have bU:TF w111 [24,27] (fun k=>k=ak∨k=am):=TF.or (TF.eq (c6 hob4.c2) (by decide)) (TF.eq (c6 hob4.c3) (by decide))
 obtain ⟨du,cM,_⟩:=hF4.cm
 have hF5:=hF4.md bM bU (by decide) (bU.no (cg cM) (by decide))
 exact E8 rfl (by decide) rfl rfl (bJ.aw ca (fun h=>by omega)) cb rfl (fun w' hm=>by
  unfold j0
  rw [xJ ac hX.symm cL]
  exact ⟨⟨G,J,b4,rfl,hF5.wk hm,⟨seen,an⟩,hnx⟩,(hob4.wk.trans' bM (fun k hk h=>by omega)).trans hm⟩)
end Go.Hb.jX
end
section
set_option maxRecDepth 20000
set_option maxHeartbeats 1000000
namespace Go.Hb.jx
open Go.Hb.cU
open Go.Proofs
open Go.Hb.eK Go.Hb.fg Go.Hb.fz Go.Hb.gX Go.Hb.fJ
def gp (F:aH) (V:db):List Value:= [.int .i64 (F.kind:Nat),str F.mj,str F.tr,aB (F.sp.getD 0 0),aB (F.sp.getD 1 0),aB (F.sp.getD 2 0),aB (F.sp.getD 3 0),aB (F.sp.getD 4 0),.int .i64 (F.least:Nat),V.v9,V.v10,V.v11,V.dw]
structure xr (w:World) (B:Nat) (F:aH) (V:db):Prop where
 o9:World.ownsRow w B 163 2 V.v9 F.bM.length (iK F.bM)
 eT:World.ownsRow w B 54 1 V.v10 F.aliases.length V.sa
 al:bN w B 71 V.sa F.aliases
 eh:World.ownsRow w B 157 5 V.v11 F.a8.length (g9 F.a8)
 dQ:World.ownsRow w B 155 7 V.dw F.rules.length (eU (F.rules.zip V.rn))
 nx:bN w B 71 V.rn (F.rules.map (·.next))
theorem o5 {w:World} {B e:Nat} {vs:List Value} {ls:List (List Nat)} (h:bN w B e vs ls):vs.all Value.oneCell'=true :=by
 rw [List.all_eq_true]
 intro v hv
 obtain ⟨i,hi⟩:=List.getElem?_of_mem hv
 have h1:=(List.getElem?_eq_some_iff.1 hi).1
 obtain ⟨u,hu,hT⟩:=bN.get h (i:=i) (by rw [← h.1]; exact h1)
 rw [hi] at hu; cases hu
 obtain ⟨a,c,rfl⟩:=hT.slice; rfl
theorem FF {w:World} {B e:Nat} {rs:List eO} {vs:List Value} {ls:List (List Nat)} (h:bN w B e vs ls):(eU (rs.zip vs)).all Value.oneCell'=true :=by
 rw [List.all_eq_true]
 intro v hv
 obtain ⟨q,a,hv⟩:=List.mem_flatMap.1 hv
 have h1:=List.all_eq_true.1 (o5 h) q.2 (List.of_mem_zip a).2
 simp only [gl,List.mem_cons,List.not_mem_nil,or_false] at hv
 rcases hv with rfl | rfl | rfl | rfl | rfl | rfl | rfl <;> first | rfl | exact h1
theorem FG {rs:List eO} {vs:List Value} {i:Nat} {v:Value} (hi:i < rs.length) (hv:i < vs.length):(eU (rs.zip vs)).set (i*7 +6) v=eU (rs.zip (vs.set i v)):=by
 obtain ⟨r,hr⟩:∃ r,rs[i]? =some r:=⟨_,List.getElem?_eq_getElem hi⟩
 obtain ⟨u,hu⟩:∃ u,vs[i]? =some u:=⟨_,List.getElem?_eq_getElem hv⟩
 have hz:(rs.zip vs)[i]? =some (r,u):=List.getElem?_zip_eq_some.2 ⟨hr,hu⟩
 have hz2:rs.zip (vs.set i v)=(rs.zip vs).set i (r,v):=by
  apply List.ext_getElem?
  intro j
  rw [List.getElem?_set]
  by_cases a:i=j
  · subst a
    rw [if_pos rfl,if_pos (List.getElem?_eq_some_iff.1 hz).1]
    exact List.getElem?_zip_eq_some.2 ⟨hr,by simp [hv]⟩
  · rw [if_neg a]
    cases h1:(rs.zip vs)[j]? with
    | none=>
      rw [List.getElem?_eq_none_iff,List.length_zip] at h1 ⊢
      rw [List.length_set]; exact h1
    | some q=>
      have h2:=List.getElem?_zip_eq_some.1 h1
      exact List.getElem?_zip_eq_some.2 ⟨h2.1,by rw [List.getElem?_set,if_neg a]; exact h2.2⟩
 have hl:(rs.zip vs).length=min rs.length vs.length:=List.length_zip
 have hc:(eU (rs.zip vs)).length=(rs.zip vs).length*7:=ka (f:=gl) (m:=7) (fun _=>rfl) _
 rw [hz2,show eU ((rs.zip vs).set i (r,v))=(eU (rs.zip vs)).take (i*7)++gl (r,v)++(eU (rs.zip vs)).drop (i*7 +7) from tK (f:=gl) (m:=7) (fun _=>rfl) _ (by omega)]
 apply List.ext_getElem?
 intro j
 have hf:=fun c hc=>p4 (f:=gl) (m:=7) (fun _=>rfl) (c:=c) hz hc
 have hg:∀ c,c < 7→(eU (rs.zip vs))[i*7 +c]? =(gl (r,u))[c]? :=fun c h=>hf c h
 have htl:((eU (rs.zip vs)).take (i*7)).length=i*7:=by rw [List.length_take,hc]; omega
 rw [List.getElem?_set]
 by_cases h1:j < i*7
 · rw [if_neg (by omega),List.append_assoc,List.getElem?_append_left (by omega),List.getElem?_take,if_pos h1]
 · rw [List.append_assoc,List.getElem?_append_right (by omega),htl]
   by_cases h2:j < i*7 +7
   · rw [List.getElem?_append_left (by show _ < 7; omega)]
     obtain ⟨c,rfl⟩:∃ c,j=i*7 +c:=⟨j - i*7,by omega⟩
     have h3:c < 7:=by omega
     rw [hg c h3,show i*7 +c - i*7=c by omega]
     match c,h3 with
     | 0,_=>rw [if_neg (by omega)]; rfl
     | 1,_=>rw [if_neg (by omega)]; rfl
     | 2,_=>rw [if_neg (by omega)]; rfl
     | 3,_=>rw [if_neg (by omega)]; rfl
     | 4,_=>rw [if_neg (by omega)]; rfl
     | 5,_=>rw [if_neg (by omega)]; rfl
     | 6,_=>rw [if_pos rfl,if_pos (by omega)]; rfl
   · rw [if_neg (by omega),List.getElem?_append_right (by show 7≤_; omega),show (gl (r,v)).length=7 from rfl,List.getElem?_drop]
     congr 1; omega
theorem vM {l:List (eO×Value)} {i:Nat} {q:eO×Value} (h:l[i]? =some q):eU l≠[]:=fun h2=>by
 have h3:(eU l).length=l.length*7:=ka (f:=gl) (m:=7) (fun _=>rfl) _
 have h4:=(List.getElem?_eq_some_iff.1 h).1
 rw [h2] at h3
 have h5:0=l.length*7:=h3
 omega
theorem rV {F:aH} {V:db} (h9:V.v9.oneCell'=true) (a:V.v10.oneCell'=true) (c:V.v11.oneCell'=true) (i:V.dw.oneCell'=true):(gp F V).all Value.oneCell'=true :=by
 rw [List.all_eq_true]
 intro v hv
 simp only [gp,List.mem_cons,List.not_mem_nil,or_false] at hv
 rcases hv with rfl | rfl | rfl | rfl | rfl | rfl | rfl | rfl | rfl | rfl | rfl | rfl | rfl <;> first | rfl | assumption
theorem x6 {w:World} {B fb mc:Nat} {F:aH} {V:db} (h:bH w B fb mc F V):(gp F V).all Value.oneCell'=true :=rV (dG h.o9) (dG h.eT) (dG h.eh) (dG h.dQ)
theorem pQ {α:Type} {l m:List α} {i:Nat} (h:l.drop i=m.drop i):l[i]? =m[i]? :=by
 have h1:=congrArg (·[0]?) h
 simpa using h1
theorem qY {α:Type} {l:List α} {i:Nat} {x:α} (h:i < l.length):(l.set i x).take (i+1)=l.take i++ [x]:=by
 rw [List.take_add_one,List.take_set_of_le (Nat.le_refl i)]; simp [h]
theorem set_drop {α:Type} {l m:List α} {i:Nat} {x:α} (h:l.drop i=m.drop i):(l.set i x).drop (i+1)=m.drop (i+1):=by
 rw [List.drop_set_of_lt (Nat.lt_succ_self i),show i.succ=i+1 from rfl]
 simpa [List.drop_drop] using congrArg (List.drop 1) h
theorem rQ {w:World} {B e i:Nat} {vs:List Value} {ls:List (List Nat)} {v:Value} (h:bN w B e (vs.take i) (ls.take i)) (hi:i < ls.length) (hv:i < vs.length) (hT:Tg w B e (ls.getD i []).length v ((ls.getD i []).map aB)):bN w B e ((vs.set i v).take (i+1)) (ls.take (i+1)):=by
 rw [qY hv,im ls i [] hi]; exact h.snoc hT
theorem zR (a:Option Addr) (n c:Nat) (xs:List Value) (w:World) (hC:ao w.heap a xs) (hxl:xs.length=n*2) (ha:a=none→n=0) (h1:xs.all Value.oneCell'=true) (hn:n≤1048576):
 aT Tryz.prog 69 (List.toArray [.slice a n c]) w (fun v' w'=>World.ownsRow w' w.heap.size 163 2 v' n xs∧Wk w w'):=by
 refine enter Tryz.func69 rfl Tryz.ntmps69 rfl ?_
 refine ae (fun _ s=>(aj (((s _ _ (sq (fun _ A=>ae (fun _ C=> ?_))))))))
 refine ag (.slice a n c) (p (lx GH rfl rfl) (ak ((C _ _ (cb rfl (fun q=> ?_) (fun q=> ?_))))))
 have I:a=none:=by simpa using q
 refine ae (fun _ i=>(aj (((i _ _ (rt (tr (f1 rfl rfl ?_))))))))
 have hn0:=ha I
 subst hn0
 obtain rfl :=List.eq_nil_of_length_eq_zero (show xs.length=0 by omega)
 exact ⟨World.ownsRow_nil _ _ _ _,Md.refl _ _⟩
 refine aE (tn (A _ _ (ae (fun _ i=>(e (j7 oD fun O w5 hb5 j E=> ?_))))))
 have ho5:=E w.heap.size (by omega)
 refine ag (.slice a n c) (e (ap oD (ho5) rfl (by have :=j.size; omega) rfl (hC.wk j.md) (hxl) (h1) (by omega) (by omega) fun M w7 J G hz7 U=> ?_))
 have hE7:=Wk.own j.md ho5 G (Nat.le_refl _)
 refine aj (((i _ _ (rt (f1 rfl rfl ?_)))))
 have hz:World.ownsRow w7 w.heap.size 163 2 M n xs:=by simpa using J
 exact ⟨hz,hE7⟩
theorem zQ (v:Value) (n:Nat) (xs:List Value) (w:World) (hv:Rd w.heap v n 2 xs) (h1:xs.all Value.oneCell'=true) (hn:n≤1048576):aT Tryz.prog 69 [v].toArray w (fun v w'=>World.ownsRow w' w.heap.size 163 2 v n xs∧Wk w w'):=by
 obtain ⟨a,c,rfl,hC,hxl,ha⟩:=hv
 exact zR a n c xs w hC hxl ha h1 hn
theorem zN (a:Option Addr) (n c:Nat) (xs:List Value) (w:World) (hC:ao w.heap a xs) (hxl:xs.length=n*5) (ha:a=none→n=0) (h1:xs.all Value.oneCell'=true) (hn:n≤1048576):
 aT Tryz.prog 70 (List.toArray [.slice a n c]) w (fun v' w'=>World.ownsRow w' w.heap.size 157 5 v' n xs∧Wk w w'):=by
 refine enter Tryz.func70 rfl Tryz.ntmps70 rfl ?_
 refine ae (fun _ s=>(aj (((s _ _ (sq (fun _ A=>ae (fun _ C=> ?_))))))))
 refine ag (.slice a n c) (p (lx wP rfl rfl) (ak ((C _ _ (cb rfl (fun q=> ?_) (fun q=> ?_))))))
 have I:a=none:=by simpa using q
 refine ae (fun _ i=>(aj (((i _ _ (rt (tr (f1 rfl rfl ?_))))))))
 have hn0:=ha I
 subst hn0
 obtain rfl :=List.eq_nil_of_length_eq_zero (show xs.length=0 by omega)
 exact ⟨World.ownsRow_nil _ _ _ _,Md.refl _ _⟩
 refine aE (tn (A _ _ (ae (fun _ i=>(e (j7 oF fun O w5 hb5 j E=> ?_))))))
 have ho5:=E w.heap.size (by omega)
 refine ag (.slice a n c) (e (ap oF (ho5) rfl (by have :=j.size; omega) rfl (hC.wk j.md) (hxl) (h1) (by omega) (by omega) fun M w7 J G hz7 U=> ?_))
 have hE7:=Wk.own j.md ho5 G (Nat.le_refl _)
 refine aj (((i _ _ (rt (f1 rfl rfl ?_)))))
 have hz:World.ownsRow w7 w.heap.size 157 5 M n xs:=by simpa using J
 exact ⟨hz,hE7⟩
theorem zM (v:Value) (n:Nat) (xs:List Value) (w:World) (hv:Rd w.heap v n 5 xs) (h1:xs.all Value.oneCell'=true) (hn:n≤1048576):aT Tryz.prog 70 [v].toArray w (fun v w'=>World.ownsRow w' w.heap.size 157 5 v n xs∧Wk w w'):=by
 obtain ⟨a,c,rfl,hC,hxl,ha⟩:=hv
 exact zN a n c xs w hC hxl ha h1 hn
theorem zV (a:Option Addr) (n c:Nat) (xs:List Value) (w:World) (hC:ao w.heap a xs) (hxl:xs.length=n*1) (ha:a=none→n=0) (h1:xs.all Value.oneCell'=true) (hn:n≤1048576):
 aT Tryz.prog 71 (List.toArray [.slice a n c]) w (fun v' w'=>World.ownsRow w' w.heap.size 54 1 v' n xs∧Wk w w'):=by
 refine enter Tryz.func71 rfl Tryz.ntmps71 rfl ?_
 refine ae (fun _ s=>(aj (((s _ _ (sq (fun _ A=>ae (fun _ C=> ?_))))))))
 refine ag (.slice a n c) (p (lx oL rfl rfl) (ak ((C _ _ (cb rfl (fun q=> ?_) (fun q=> ?_))))))
 have I:a=none:=by simpa using q
 refine ae (fun _ i=>(aj (((i _ _ (rt (tr (f1 rfl rfl ?_))))))))
 have hn0:=ha I
 subst hn0
 obtain rfl :=List.eq_nil_of_length_eq_zero (show xs.length=0 by omega)
 exact ⟨World.ownsRow_nil _ _ _ _,Md.refl _ _⟩
 refine aE (tn (A _ _ (ae (fun _ i=>(e (j7 oE fun O w5 hb5 j E=> ?_))))))
 have ho5:=E w.heap.size (by omega)
 refine ag (.slice a n c) (e (ap oE (ho5) rfl (by have :=j.size; omega) rfl (hC.wk j.md) (hxl) (h1) (by omega) (by omega) fun M w7 J G hz7 U=> ?_))
 have hE7:=Wk.own j.md ho5 G (Nat.le_refl _)
 refine aj (((i _ _ (rt (f1 rfl rfl ?_)))))
 have hz:World.ownsRow w7 w.heap.size 54 1 M n xs:=by simpa using J
 exact ⟨hz,hE7⟩
theorem zU (v:Value) (n:Nat) (xs:List Value) (w:World) (hv:Rd w.heap v n 1 xs) (h1:xs.all Value.oneCell'=true) (hn:n≤1048576):aT Tryz.prog 71 [v].toArray w (fun v w'=>World.ownsRow w' w.heap.size 54 1 v n xs∧Wk w w'):=by
 obtain ⟨a,c,rfl,hC,hxl,ha⟩:=hv
 exact zV a n c xs w hC hxl ha h1 hn
theorem zT (a:Option Addr) (n c:Nat) (xs:List Value) (w:World) (hC:ao w.heap a xs) (hxl:xs.length=n*7) (ha:a=none→n=0) (h1:xs.all Value.oneCell'=true) (hn:n≤1048576):
 aT Tryz.prog 72 (List.toArray [.slice a n c]) w (fun v' w'=>World.ownsRow w' w.heap.size 155 7 v' n xs∧Wk w w'):=by
 refine enter Tryz.func72 rfl Tryz.ntmps72 rfl ?_
 refine ae (fun _ s=>(aj (((s _ _ (sq (fun _ A=>ae (fun _ C=> ?_))))))))
 refine ag (.slice a n c) (p (lx oM rfl rfl) (ak ((C _ _ (cb rfl (fun q=> ?_) (fun q=> ?_))))))
 have I:a=none:=by simpa using q
 refine ae (fun _ i=>(aj (((i _ _ (rt (tr (f1 rfl rfl ?_))))))))
 have hn0:=ha I
 subst hn0
 obtain rfl :=List.eq_nil_of_length_eq_zero (show xs.length=0 by omega)
 exact ⟨World.ownsRow_nil _ _ _ _,Md.refl _ _⟩
 refine aE (tn (A _ _ (ae (fun _ i=>(e (j7 oG fun O w5 hb5 j E=> ?_))))))
 have ho5:=E w.heap.size (by omega)
 refine ag (.slice a n c) (e (ap oG (ho5) rfl (by have :=j.size; omega) rfl (hC.wk j.md) (hxl) (h1) (by omega) (by omega) fun M w7 J G hz7 U=> ?_))
 have hE7:=Wk.own j.md ho5 G (Nat.le_refl _)
 refine aj (((i _ _ (rt (f1 rfl rfl ?_)))))
 have hz:World.ownsRow w7 w.heap.size 155 7 M n xs:=by simpa using J
 exact ⟨hz,hE7⟩
theorem zS (v:Value) (n:Nat) (xs:List Value) (w:World) (hv:Rd w.heap v n 7 xs) (h1:xs.all Value.oneCell'=true) (hn:n≤1048576):aT Tryz.prog 72 [v].toArray w (fun v w'=>World.ownsRow w' w.heap.size 155 7 v n xs∧Wk w w'):=by
 obtain ⟨a,c,rfl,hC,hxl,ha⟩:=hv
 exact zT a n c xs w hC hxl ha h1 hn
theorem zP (a:Option Addr) (n c:Nat) (xs:List Value) (w:World) (hC:ao w.heap a xs) (hxl:xs.length=n*2) (ha:a=none→n=0) (h1:xs.all Value.oneCell'=true) (hn:n≤1048576):
 aT Tryz.prog 48 (List.toArray [.slice a n c]) w (fun v' w'=>World.ownsRow w' w.heap.size 56 2 v' n xs∧Wk w w'):=by
 refine enter Tryz.func48 rfl Tryz.ntmps48 rfl ?_
 refine ae (fun _ s=>(aj (((s _ _ (sq (fun _ A=>ae (fun _ C=> ?_))))))))
 refine ag (.slice a n c) (p (lx kn rfl rfl) (ak ((C _ _ (cb rfl (fun q=> ?_) (fun q=> ?_))))))
 have I:a=none:=by simpa using q
 refine ae (fun _ i=>(aj (((i _ _ (rt (tr (f1 rfl rfl ?_))))))))
 have hn0:=ha I
 subst hn0
 obtain rfl :=List.eq_nil_of_length_eq_zero (show xs.length=0 by omega)
 exact ⟨World.ownsRow_nil _ _ _ _,Md.refl _ _⟩
 refine aE (tn (A _ _ (ae (fun _ i=>(e (j7 oA fun O w5 hb5 j E=> ?_))))))
 have ho5:=E w.heap.size (by omega)
 refine ag (.slice a n c) (e (ap oA (ho5) rfl (by have :=j.size; omega) rfl (hC.wk j.md) (hxl) (h1) (by omega) (by omega) fun M w7 J G hz7 U=> ?_))
 have hE7:=Wk.own j.md ho5 G (Nat.le_refl _)
 refine aj (((i _ _ (rt (f1 rfl rfl ?_)))))
 have hz:World.ownsRow w7 w.heap.size 56 2 M n xs:=by simpa using J
 exact ⟨hz,hE7⟩
theorem zO (v:Value) (n:Nat) (xs:List Value) (w:World) (hv:Rd w.heap v n 2 xs) (h1:xs.all Value.oneCell'=true) (hn:n≤1048576):aT Tryz.prog 48 [v].toArray w (fun v w'=>World.ownsRow w' w.heap.size 56 2 v n xs∧Wk w w'):=by
 obtain ⟨a,c,rfl,hC,hxl,ha⟩:=hv
 exact zP a n c xs w hC hxl ha h1 hn
theorem xK (B fb mc:Nat) (F:aH) (V:db) (w:World) (aC:bH w B fb mc F V) (hb:F.bM.length+F.aliases.length+F.a8.length+F.rules.length≤70000) (hnx:Nx F):
 aT Tryz.prog 38 (List.toArray [aW fb]) w (fun v w'=>(∃ bf,v= .agg (gp F bf).toArray∧xr w' w.heap.size F bf)∧Wk w w'):=by
 refine enter Tryz.func38 rfl Tryz.ntmps38 rfl ?_
 refine ae (fun _ bI=>(e (fZ xo fun a0 O hb2 a3 hB2=> ?_)))
 have hz2:=a3.size
 have hF2:=aC.wk a3.md
 refine ak ((bI _ _ (sq (fun _ bU=>ae (fun _ bV=>(ag (aW fb) (p (e8 km rfl rfl) (nl ?_))))))))
 refine tn (bV _ _ (cf (rfl) (aE (tn (bU _ _ (ae (fun _ bW=>(ag (aW fb) (p (nc rfl) ?_)))))))))
 refine p (fa dF rfl) (p (cR o4 rfl (rfl) (show ∀ j,j < 13→Hb.aA O.heap fb (0 +j)=(gp F V)[j]? from fun j aM=>(aU hF2.cells).trans (by match j,aM with | 0,_=>rfl | 1,_=>rfl | 2,_=>rfl | 3,_=>rfl | 4,_=>rfl | 5,_=>rfl | 6,_=>rfl | 7,_=>rfl | 8,_=>rfl | 9,_=>rfl | 10,_=>rfl | 11,_=>rfl | 12,_=>rfl))) (e (fZ xo fun M w3 cC bm b4=> ?_)))
 have hz3:=bm.size
 refine e (gn s5 rfl rfl rfl (x6 hF2) b4 (by decide) fun w30 bl b5=> ?_)
 have bi:Wk O w30:=bm.md.trans' bl (fun q a h=>by omega)
 have hz30:=bl.size
 have hF30:=hF2.wk bi
 have aI:w30.heap[M]? =some (.cells (gp F ⟨V.v9,V.v10,V.v11,V.dw,V.sa,V.rn⟩).toArray 87 (0,0)):=b5
 refine ak ((bW _ _ (ae (fun _ bX=>(p (fa nX rfl) (p (ld rK rfl ((aU aI).trans rfl)) (e (cl zg (zQ V.v9 F.bM.length (iK F.bM) w30 (Rd.gj hF30.o9) (tJ (fun _=>rfl) _) (by omega)) rfl fun J w16 cb=> ?_))))))))
 obtain ⟨bu,a1⟩:=cb
 have hz16:=a1.size
 have ho16x:=gk bu (show w3.heap.size≤w30.heap.size by omega)
 refine p (fa nX rfl) (e (da sX rfl rfl (v:=J) (dG bu) (a1.aw aI) (by show _ < 13; omega) fun w4 a2 b6=> ?_))
 have hE4:Wk O w4:=(bi.trans a1).trans' a2 (fun q a h=>by omega)
 have hz4:=a2.size
 have hF4:=hF2.wk hE4
 have ho16y:=bF ho16x a2 (fun q a h=>by have :=(c4 ho16x a).1; omega)
 have bs:w4.heap[M]? =some (.cells (gp F ⟨J,V.v10,V.v11,V.dw,V.sa,V.rn⟩).toArray 87 (0,0)):=b6
 refine ak ((bX _ _ (ae (fun _ bY=>(p (fa lC rfl) (p (ld nj rfl ((aU bs).trans rfl)) (e (cl zh (zM V.v11 F.a8.length (g9 F.a8) w4 (Rd.gj hF4.eh) (tJ (fun _=>rfl) _) (by omega)) rfl fun v20 w20 cc=> ?_))))))))
 obtain ⟨bw,ap⟩:=cc
 have hz20:=ap.size
 have ho20x:=gk bw (show w3.heap.size≤w4.heap.size by omega)
 refine p (fa lC rfl) (e (da sZ rfl rfl (v:=v20) (dG bw) (ap.aw bs) (by show _ < 13; omega) fun w5 aF b7=> ?_))
 have hE5:Wk O w5:=(hE4.trans ap).trans' aF (fun q a h=>by omega)
 have hz5:=aF.size
 have hF5:=hF2.wk hE5
 have ho16z:=bF (aJ ho16y ap) aF (fun q a h=>by have :=(c4 (aJ ho16y ap) a).1; omega)
 have ho20y:=bF ho20x aF (fun q a h=>by have :=(c4 ho20x a).1; omega)
 have hc5:w5.heap[M]? =some (.cells (gp F ⟨J,V.v10,v20,V.dw,V.sa,V.rn⟩).toArray 87 (0,0)):=b7
 refine ak ((bY _ _ (ae (fun _ bZ=>(p (fa jM rfl) (p (ld kB rfl ((aU hc5).trans rfl)) (e (cl zi (zU V.v10 F.aliases.length V.sa w5 (Rd.gj hF5.eT) (o5 hF5.al) (by omega)) rfl fun bE cG ce=> ?_))))))))
 obtain ⟨bx,aa⟩:=ce
 have hz24:=aa.size
 have ho24x:=gk bx (show w3.heap.size≤w5.heap.size by omega)
 refine p (fa jM rfl) (e (da sY rfl rfl (v:=bE) (dG bx) (aa.aw hc5) (by show _ < 13; omega) fun w6 ar hB6=> ?_))
 have ca:Wk O w6:=(hE5.trans aa).trans' ar (fun q a h=>by omega)
 have hz6:=ar.size
 have ho9a:=bF (aJ ho16z aa) ar (fun q a h=>by have :=(c4 (aJ ho16z aa) a).1; omega)
 have ho11a:=bF (aJ ho20y aa) ar (fun q a h=>by have :=(c4 (aJ ho20y aa) a).1; omega)
 have ho10a:=bF ho24x ar (fun q a h=>by have :=(c4 ho24x a).1; omega)
 have bt:w6.heap[M]? =some (.cells (gp F ⟨J,bE,v20,V.dw,V.sa,V.rn⟩).toArray 87 (0,0)):=hB6
 obtain ⟨Y,fi,rfl⟩:=cH ho10a
 have hsl:=aC.al.1
 refine ak ((bZ _ _ (sq (fun _ b0=>ae (fun _ b1=>(p (fa jM rfl) (p (ld kB rfl ((aU bt).trans rfl)) (p (bp oL rfl rfl) ?_))))))))
 refine p mv (ak ((b1 _ _ (aw (lp (fun an ai wI=> ∃ (i:Nat) (sa:List Value),(i≤F.aliases.length)∧(sa.length=F.aliases.length)∧(sa.drop i=V.sa.drop i)∧(bN wI w3.heap.size 71 (sa.take i) (F.aliases.take i))∧(World.ownsRow wI w3.heap.size 54 1 (.slice Y F.aliases.length fi) F.aliases.length (sa))∧(World.ownsRow wI w3.heap.size 163 2 (J) F.bM.length (iK F.bM))∧(World.ownsRow wI w3.heap.size 157 5 (v20) F.a8.length (g9 F.a8))∧(wI.heap[M]? =some (.cells (gp F ⟨J,.slice Y F.aliases.length fi,v20,V.dw,V.sa,V.rn⟩).toArray 87 (0,0)))∧(Wk O wI)∧(w3.heap.size≤wI.heap.size)∧(ai 2=aW a0)∧(ai 3=aW M)∧(ai 27= .slice Y F.aliases.length fi)∧(ai 28=U (F.aliases.length))∧(ai 29=U i)∧(F.aliases.length - i=an)) _ ⟨0,V.sa,(by omega),hsl,rfl,(bN.nil _ _ _),ho10a,ho9a,ho11a,bt,ca,((by omega)),rfl,rfl,rfl,rfl,rfl,rfl⟩ ?_)))))
 rintro an ai wI ⟨i,sa,hi,av,bB,hal,I,aS,aP,au,ay,cD,co,ct,cp,cq,cr,rfl⟩
 refine fx 2 co (fx 3 ct (fx 27 cp (fx 28 cq (fx 29 cr (ae (fun _ bJ=>(p (lt rfl rfl) (ak ((bJ _ _ (sq (fun _ bL=>cd rfl (fun aI=> ?_) (fun aI=> ?_)))))))))))))
 refine aE (tn (bL _ _ (sq (fun _ aX=>aw (sq (fun _ aY=> ?_))))))
 obtain ⟨cF,cy,a5⟩:=bN.get (hF2.wk ay).al (show i < F.aliases.length by omega)
 obtain ⟨b2,ci,rfl⟩:=a5.slice
 refine rg rfl (ag (U i) (p (aK pU rfl rfl (by omega) (ao.ok ((aG I).2) (fun h=>by rw [h] at av; simp at av; omega))) (p (ld g4 rfl (ao.gG (aG I).2 ((pQ bB).trans cy))) (p (bD (U i) rfl) (aj (((aY _ _ ?_))))))))
 have Z:(fun w'=>Wk wI w') wI.drew:=(Md.refl _ _).drew
 refine dj (fun w'=>Wk wI w') 6 rfl wide Z (lq 0 rfl (by kernel_rfl) (fun _ _=>fa jM rfl) Z (lq 1 rfl (by kernel_rfl) (fun w' ah=>ld kB rfl (Wk.aA ah ((aU au).trans rfl))) Z (lq 2 rfl (by kernel_rfl) (fun _ _=>az (U i) rfl) Z (lq 3 rfl (by kernel_rfl) (fun _ _=>mv) Z (fR 4 rfl (by kernel_rfl) (cl ny (nB b2 (F.aliases.getD i []).length ci ((F.aliases.getD i []).map aB) wI.drew (ao.wk a5.bK.2 Z) (by simp) (fun h=>Tg.oa a5 (by simp) h) (nm _) (by have :=hnx.1 _ (ee (d:= []) (show i < F.aliases.length by omega)); omega)) rfl fun cA w38 cg=> ?_))))))
 obtain ⟨a9,bj⟩:=cg
 have C:Wk wI w38:=Z.trans bj
 have hSI:=C
 have bo:(fun w'=>Wk wI w') w38:=Z.trans bj
 refine ⟨bo,?_⟩
 refine lq 5 rfl (by kernel_rfl) (fun _ _=>aK pU rfl rfl (by omega) (ao.ok ((aG I).2) (fun h=>by rw [h] at av; simp at av; omega))) bo (bP 6 rfl (by kernel_rfl) (by kernel_rfl) (lR (j:=i) (aJ I C) nH rfl rfl (dG a9) (by simp) (by omega) fun w10 ab ho10=> ?_))
 have b8:Wk O w10:=Wk.own (ay.trans C) (aJ I C) ab (by omega)
 have ho38x:=bF (gk a9 (show w3.heap.size≤wI.heap.size by omega)) ab (fun q a=>iJ a9 (aJ I C) (by decide) a)
 have hal10:=(hal.wk C).md ab (fw (aJ I C) (by decide))
 have ho9J:=bF (aJ aS C) ab (fun q a=>iJ (aJ aS C) (aJ I C) (by decide) a)
 have ho11J:=bF (aJ aP C) ab (fun q a=>iJ (aJ aP C) (aJ I C) (by decide) a)
 have hcJ:=ab.aw (Wk.aw C au) (fun h=>by have :=(c4 (aJ I C) h).1; omega)
 refine di (by kernel_rfl) ?_
 exact bn (tn (aX _ _ (rg rfl (p (ad rfl rfl (bC (by omega))) (p mv (ak ((⟨_,by omega,i+1,sa.set i cA,(by omega),((by rw [List.length_set]; exact av)),(set_drop bB),(rQ hal10 (by omega) (by omega) (Tg.gj ho38x)),ho10,ho9J,ho11J,hcJ,b8,((by have :=hSI.size; have :=ab.size; omega)),rfl,rfl,rfl,rfl,rfl,rfl⟩))))))))
 refine ext (te _ (te _ (be (tn (b0 _ _ (ae (fun _ aX=>(p (fa jN rfl) ?_))))))))
 refine p (ld kD rfl ((aU au).trans rfl)) (e (cl zj (zS V.dw F.rules.length (eU (F.rules.zip V.rn)) wI (Rd.gj (hF2.wk ay).dQ) (FF aC.nx) (by omega)) rfl fun bG w43 ch=> ?_))
 obtain ⟨bz,hE43⟩:=ch
 have hz43:=hE43.size
 have ho43x:=gk bz (show w3.heap.size≤wI.heap.size by omega)
 rw [List.take_of_length_le (by omega),List.take_of_length_le (by omega)] at hal
 refine p (fa jN rfl) (e (da s0 rfl rfl (v:=bG) (dG bz) (Wk.aw hE43 au) (by show _ < 13; omega) fun w12 ac b3=> ?_))
 have hE12:Wk O w12:=(ay.trans hE43).trans' ac (fun q a h=>by omega)
 have hz12:=ac.size
 have ho9b:=bF (aJ aS hE43) ac (fun q a h=>by have :=(c4 (aJ aS hE43) a).1; omega)
 have ho10b:=bF (aJ I hE43) ac (fun q a h=>by have :=(c4 (aJ I hE43) a).1; omega)
 have ho11b:=bF (aJ aP hE43) ac (fun q a h=>by have :=(c4 (aJ aP hE43) a).1; omega)
 have ho12b:=bF ho43x ac (fun q a h=>by have :=(c4 ho43x a).1; omega)
 have halb:=(hal.wk hE43).md ac (eE (Wk.aw hE43 au) (by decide))
 have br:w12.heap[M]? =some (.cells (gp F ⟨J,.slice Y F.aliases.length fi,v20,bG,V.sa,V.rn⟩).toArray 87 (0,0)):=b3
 obtain ⟨am,g8,rfl⟩:=cH ho12b
 have hrl:V.rn.length=F.rules.length:=by have :=aC.nx.1; rwa [List.length_map] at this
 refine ak ((aX _ _ (sq (fun _ aY=>ae (fun _ bO=>(p (fa jN rfl) (p (ld kD rfl ((aU br).trans rfl)) (p (bp oM rfl rfl) ?_))))))))
 refine p mv (ak ((bO _ _ (aw (lp (fun an ax A=> ∃ (i:Nat) (rn:List Value),(i≤F.rules.length)∧(rn.length=F.rules.length)∧(rn.drop i=V.rn.drop i)∧(bN A w3.heap.size 71 (rn.take i) ((F.rules.map (·.next)).take i))∧(World.ownsRow A w3.heap.size 155 7 (.slice am F.rules.length g8) F.rules.length (eU (F.rules.zip rn)))∧(World.ownsRow A w3.heap.size 163 2 (J) F.bM.length (iK F.bM))∧(World.ownsRow A w3.heap.size 54 1 (.slice Y F.aliases.length fi) F.aliases.length (sa))∧(bN A w3.heap.size 71 sa F.aliases)∧(World.ownsRow A w3.heap.size 157 5 (v20) F.a8.length (g9 F.a8))∧(A.heap[M]? =some (.cells (gp F ⟨J,.slice Y F.aliases.length fi,v20,.slice am F.rules.length g8,V.sa,V.rn⟩).toArray 87 (0,0)))∧(Wk O A)∧(w3.heap.size≤A.heap.size)∧(ax 2=aW a0)∧(ax 3=aW M)∧(ax 47=U (F.rules.length))∧(ax 48=U i)∧(F.rules.length - i=an)) _ ⟨0,V.rn,(by omega),hrl,rfl,(bN.nil _ _ _),ho12b,ho9b,ho10b,halb,ho11b,br,hE12,((by omega)),rfl,rfl,rfl,rfl,rfl⟩ ?_)))))
 rintro an ax A ⟨i,rn,hi,cn,bA,hnl,E,aV,aO,bq,aR,aL,aq,cE,cu,cv,cw,cx,rfl⟩
 refine fx 2 cu (fx 3 cv (fx 47 cw (fx 48 cx (ae (fun _ bQ=>(p (lt rfl rfl) (ak ((bQ _ _ (sq (fun _ bR=>cd rfl (fun ck=> ?_) (fun ck=> ?_))))))))))))
 refine aE (tn (bR _ _ (sq (fun _ aZ=>aw (sq (fun _ bT=> ?_))))))
 obtain ⟨vn,cz,a6⟩:=bN.get (hF2.wk aq).nx (show i < (F.rules.map (·.next)).length by rw [List.length_map]; omega)
 obtain ⟨bg,bh,rfl⟩:=a6.slice
 obtain ⟨q,bc⟩:∃ q,F.rules[i]? =some q:=⟨_,List.getElem?_eq_getElem (by omega)⟩
 have cm:(F.rules.map (·.next)).getD i []=q.next:=by rw [List.getD_eq_getElem?_getD,List.getElem?_map,bc]; rfl
 have hql:=hnx.2 q (List.mem_of_getElem? bc)
 rw [← cm] at hql
 have bd:(F.rules.zip rn)[i]? =some (q,.slice bg ((F.rules.map (·.next)).getD i []).length bh):=List.getElem?_zip_eq_some.2 ⟨bc,(pQ bA).trans cz⟩
 refine rg rfl (ag (U i) (p (bD (U i) rfl) (ak ((bT _ _ ?_)))))
 have G:(fun w'=>Wk A w') A.drew:=(Md.refl _ _).drew
 refine dj (fun w'=>Wk A w') 12 rfl wide G (a7 0 rfl (fun _=>fa jN rfl) (fun _=>G) (cY 1 rfl (fun w' ah=>ld kD rfl (Wk.aA ah ((aU aL).trans rfl))) G (aQ 2 rfl (U i) G (a7 3 rfl (fun _=>fa jN rfl) (fun _=>G) (cY 4 rfl (fun w' ah=>ld kD rfl (Wk.aA ah ((aU aL).trans rfl))) G (aQ 5 rfl (U i) G (a7 6 rfl (fun _=>aK pV rfl rfl (by omega) (ao.ok ((aG E).2) (vM bd))) (fun _=>G) ?_)))))))
 refine a7 7 rfl (fun _=>fa nV rfl) (fun _=>G) (cY 8 rfl (fun w' ah=>ld g4 rfl (Wk.aA ah (hZ (f:=gl) (m:=7) (fun _=>rfl) (aG E).2 bd 6 (by decide)))) G (fR 9 rfl (by kernel_rfl) (cl ny (nB bg ((F.rules.map (·.next)).getD i []).length bh (((F.rules.map (·.next)).getD i []).map aB) A.drew (ao.wk a6.bK.2 G) (by simp) (fun h=>Tg.oa a6 (by simp) h) (nm _) (by omega)) rfl fun cB w60 cj=> ?_)))
 obtain ⟨bb,bk⟩:=cj
 have c:Wk A w60:=G.trans bk
 have hSK:=c
 have a4:(fun w'=>Wk A w') w60:=G.trans bk
 refine ⟨a4,?_⟩
 refine a7 10 rfl (fun _=>aK pV rfl rfl (by omega) (ao.ok ((aG E).2) (vM bd))) (fun _=>a4) (a7 11 rfl (fun _=>fa nV rfl) (fun _=>a4) (bP 12 rfl (by kernel_rfl) (by kernel_rfl) (lR (j:=i*7 +6) (aJ E c) nH rfl rfl (dG bb) (by rw [Int.toNat_natCast]; omega) (by omega) fun w16 hM16 bv=> ?_)))
 rw [FG (by omega) (by omega)] at bv
 have b9:Wk O w16:=Wk.own (aq.trans c) (aJ E c) hM16 (by omega)
 have ho60x:=bF (gk bb (show w3.heap.size≤A.heap.size by omega)) hM16 (fun q a=>iJ bb (aJ E c) (by decide) a)
 have hnl16:=(hnl.wk c).md hM16 (fw (aJ E c) (by decide))
 have hal16:=(bq.wk c).md hM16 (fw (aJ E c) (by decide))
 have ho9L:=bF (aJ aV c) hM16 (fun q a=>iJ (aJ aV c) (aJ E c) (by decide) a)
 have ho10L:=bF (aJ aO c) hM16 (fun q a=>iJ (aJ aO c) (aJ E c) (by decide) a)
 have ho11L:=bF (aJ aR c) hM16 (fun q a=>iJ (aJ aR c) (aJ E c) (by decide) a)
 have hcL:=hM16.aw (Wk.aw c aL) (fun h=>by have :=(c4 (aJ E c) h).1; omega)
 refine di (by kernel_rfl) ?_
 exact bn (tn (aZ _ _ (rg rfl (p (ad rfl rfl (bC (by omega))) (p mv (ak ((⟨_,by omega,i+1,rn.set i cB,(by omega),((by rw [List.length_set]; exact cn)),(set_drop bA),(rQ hnl16 (by rw [List.length_map]; omega) (by omega) (Tg.gj ho60x)),bv,ho9L,ho10L,hal16,ho11L,hcL,b9,((by have :=hSK.size; have :=hM16.size; omega)),rfl,rfl,rfl,rfl,rfl⟩))))))))
 refine ext (te _ (te _ (be (tn (aY _ _ (ae (fun _ aZ=>(p (cR o4 rfl (rfl) (show ∀ j,j < 13→Hb.aA A.heap M (0 +j)=(gp F ⟨J,.slice Y F.aliases.length fi,v20,.slice am F.rules.length g8,V.sa,V.rn⟩)[j]? from fun j aM=>(aU aL).trans (by match j,aM with | 0,_=>rfl | 1,_=>rfl | 2,_=>rfl | 3,_=>rfl | 4,_=>rfl | 5,_=>rfl | 6,_=>rfl | 7,_=>rfl | 8,_=>rfl | 9,_=>rfl | 10,_=>rfl | 11,_=>rfl | 12,_=>rfl))) ?_))))))))
 refine e (gn s5 rfl rfl rfl (rV (dG aV) (dG aO) (dG aR) (dG E)) (Wk.aw aq hB2) (by decide) fun w18 aD hB18=>ak ((aZ _ _ (rt (mq rfl (dd (cs:=gp F ⟨J,.slice Y F.aliases.length fi,v20,.slice am F.rules.length g8,V.sa,V.rn⟩) rfl o4 rfl (fun j aM=>(ba.bS ⟨_,hB18⟩ j).trans rfl)) ?_)))))
 have aN:∀ {t s n:Nat} {v:Value} {xs:List Value},World.ownsRow A w3.heap.size t s v n xs→World.ownsRow w18 w.heap.size t s v n xs:=fun h=>gk (bF h aD (fun q a h2=>by have :=(c4 h a).1; omega)) (by omega)
 rw [List.take_of_length_le (by omega),List.take_of_length_le (by rw [List.length_map]; omega)] at hnl
 have hfl:∀ k,k=a0→∀ cur z,A.heap[k]?≠some (.cells cur 71 z):=eE (Wk.aw aq hB2) (by decide)
 exact ⟨⟨⟨J,.slice Y F.aliases.length fi,v20,.slice am F.rules.length g8,sa,rn⟩,rfl,⟨aN aV,aN aO,(bq.md aD hfl).mono (by omega),aN aR,aN E,(hnl.md aD hfl).mono (by omega)⟩⟩,(a3.md.trans aq).trans' aD (fun q a h=>by omega)⟩
end Go.Hb.jx
end
section
set_option maxRecDepth 20000
set_option maxHeartbeats 1000000
namespace Go.Hb.jZ
open Go.Hb.cU
open Go.Proofs
open Go.Hb.eK Go.Hb.fg Go.Hb.fz Go.Hb.iP Go.Hb.kq Go.Hb.l2 Go.Hb.gX Go.Hb.jX Go.Hb.fJ Go.Hb.jx Go.Hb.jy Go.Hb.gZ Go.Hb.m8 Go.Hb.fY
noncomputable def gv (r:List Tx):Nat×Int:=if r.length≠1 then (0,111) else dy (r.getD 0 []) 8192
def xw (c w':World) (X:Except Nat bV) (v:Value):Prop :=(∃ x a,X= .ok x∧v= .tuple #[.agg [str x.1,a].toArray,.int .i64 (0:Nat)]∧World.ownsRow w' c.heap.size 71 1 a x.2.length (x.2.map aB))∨(∃ e,X= .error e∧e≠0∧v= .tuple #[.agg [str [],.slice none 0 0].toArray,.int .i64 (e:Nat)])
theorem vl {s:Tx} {i:Nat} (hi:i < s.length):(s.take (i+1)).drop i= [s.getD i 0]:=by
 rw [q4 0 (Nat.le_refl i) hi,List.drop_eq_nil_of_le (by rw [List.length_take]; omega),List.nil_append]
theorem xa (b:UInt8):jV [b]=eR b:=by unfold jV; rw [ym]; cases eR b <;> rfl
theorem s8 {F:aH} {x:Nat} (h:(dE F.a8 x).isSome=true∨x∈F.sp):cX F x=true :=by
 unfold cX; rcases h with h | h
 · rw [h,Bool.or_true]
 · rw [decide_eq_true h]; rfl
theorem AJ {F:aH} {x:Nat} (h:(dE F.a8 x).isSome=false) (h1:x∉F.sp):cX F x=false :=by
 unfold cX; rw [h,decide_eq_false h1]; rfl
theorem F7 {F:aH} (h:F.sp.length=5):[F.sp.getD 0 0,F.sp.getD 1 0,F.sp.getD 2 0,F.sp.getD 3 0,F.sp.getD 4 0]=F.sp:=by
 match F.sp,h with
 | [a,b,c,d,e],_=>rfl
theorem CV (a:Option Addr) (c:Nat) (l:List Nat) (x:Nat) (w:World) (hC:ao w.heap a (l.map aB)) (hl:l.length≤1048576):
 aT Tryz.prog 105 (List.toArray [.slice a l.length c,aB x]) w (fun v w'=>(∃ k:Int,v= .int .i64 k∧(0≤k↔x∈l)∧ -1≤k∧k≤1048576)∧Wk w w'):=by
 refine enter Tryz.func105 rfl Tryz.ntmps105 rfl ?_
 refine ae (fun _ I=>(aj (((I _ _ (sq (fun _ J=>ae (fun _ M=> ?_))))))))
 refine ag (.slice a l.length c) (p (bp gW rfl rfl) (p mv (ak ((M _ _ (aw (lp (fun A q wI=> ∃ (i:Nat),(i≤l.length)∧(∀ j,j < i→l.getD j 0≠x)∧(wI=w)∧(q 0= .slice a l.length c)∧(q 1=aB x)∧(q 7=U (l.length))∧(q 8=U i)∧(l.length - i=A)) _ ⟨0,(by omega),((fun j E=>by omega)),rfl,rfl,rfl,rfl,rfl,rfl⟩ ?_)))))))
 rintro A q wI ⟨i,hi,G,ab,ah,ai,al,am,rfl⟩
 refine fx 0 ah (fx 1 ai (fx 7 al (fx 8 am ?_)))
 subst ab
 refine ae (fun _ O=>(p (lt rfl rfl) (ak ((O _ _ (sq (fun _ V=>cd rfl (fun ac=> ?_) (fun ac=> ?_))))))))
 refine aE (tn (V _ _ (sq (fun _ s=>aw (ae (fun _ Y=>(ag (U i) (p (bD (U i) rfl) ?_))))))))
 refine ak ((Y _ _ (ae (fun _ Z=>(ag (aB x) (ag (.slice a l.length c) (ag (U i) (p (aK a4 rfl rfl (by omega) (ao.ok (hC) (bL (by omega)))) ?_))))))))
 refine p (ld bg rfl (ao.gG hC (show (l.map aB)[i]? =some (aB (l.getD i 0)) by rw [List.getElem?_map,List.getD_eq_getElem?_getD,List.getElem?_eq_getElem (by omega :i < l.length)]; rfl))) ?_
 refine p (bu rfl rfl) (ak ((Z _ _ (cd rfl (fun C=> ?_) (fun C=> ?_)))))
 refine ae (fun _ aa=>(ag (U i) (p (bD (U i) rfl) (ak ((aa _ _ (rt (br ?_))))))))
 exact tr (tr (br (tr (f1 rfl rfl (⟨⟨(i:Nat),rfl,⟨fun _=>by obtain rfl :x=l.getD i 0:=(by omega); exact ee (by omega),fun _=>by omega⟩,by omega,by omega⟩,Md.refl _ _⟩)))))
 refine aE (bn (tn (s _ _ (rg rfl (p (ad rfl rfl (bC (by omega))) (p mv (nl (tn ?_))))))))
 exact ⟨_,by omega,i+1,(by omega),((fun j E=>by rcases Nat.lt_or_ge j i with h | h <;> first | exact G j h | (rw [show j=i by omega]; exact fun h2=>C (by rw [h2])))),rfl,rfl,rfl,rfl,rfl,rfl⟩
 refine ext (te _ (te _ (be (tn (J _ _ (ae (fun _ s=>(p au ?_))))))))
 exact ak ((s _ _ (rt (f1 rfl rfl (⟨⟨-1,rfl,⟨fun h=>absurd h (by omega),fun h=>by obtain ⟨j,E,e⟩:=mH 0 h; exact absurd e (G j (by omega))⟩,by omega,by omega⟩,Md.refl _ _⟩)))))
theorem Af (a:Option Addr) (c:Nat) (l:List Nat) (x:Nat) (w:World) (hC:ao w.heap a (l.map aB)) (hl:l.length≤1048576):
 aT Tryz.prog 76 (List.toArray [.slice a l.length c,aB x]) w (fun v w'=>v= .bool (decide (x∈l))∧Wk w w'):=by
 refine enter Tryz.func76 rfl Tryz.ntmps76 rfl ?_
 refine ae (fun _ i=>(aj (((i _ _ (ae (fun _ j=>(ag (.slice a l.length c) ?_))))))))
 refine ag (aB x) (e (cl yo (CV a c l x w hC hl) rfl fun C w7 hR7=> ?_))
 obtain ⟨⟨s,rfl,q,A⟩,hE7⟩:=hR7
 exact p (ge rfl rfl) (aj (((j _ _ (rt (f1 rfl rfl (⟨by show Value.bool (decide (s≥0))=_; exact congrArg Value.bool (decide_eq_decide.2 q),hE7⟩)))))))
theorem ll (ln er:Int) (w:World):
 aT Tryz.prog 36 (List.toArray [.int .i64 ln,.int .i64 er]) w (fun v w'=>v= .agg [.int .i64 2,.int .i64 ln,.int .i64 er].toArray∧Wk w w'):=by
 refine enter Tryz.func36 rfl Tryz.ntmps36 rfl ?_
 refine ae (fun _ a=>(e (al fy fun E w4 G C s=>ak ((a _ _ (ae (fun _ c=>(ag (.int .i64 ln) ?_))))))))
 exact ag (.int .i64 er) (p (cz (ps:= [(0,.int .i64 2),(1,.int .i64 ln),(2,.int .i64 er)]) (L:= [.int .i64 2,.int .i64 ln,.int .i64 er]) lQ rfl (rfl)) (e (bJ dO rfl rfl rfl rfl (s) (by simp) fun M A i=>ak ((c _ _ (rt (mq rfl (dd (cs:= [.int .i64 2,.int .i64 ln,.int .i64 er]) rfl fE rfl (fun j I=>i.bS j)) (⟨rfl,C.md.trans' A (fun q J h=>by omega)⟩))))))))
theorem AU (n:Nat) (r:List Tx) (B:Nat) (a:Option Addr) (c:Nat) (w:World) (hT:Tg w B 9 r.length (.slice a r.length c) (r.map str)) (hrl:∀ x∈r,x.length≤70000) (hr:r.length≤70000):
 aT Tryz.prog 37 (List.toArray [.agg [U n,.slice a r.length c].toArray]) w (fun v w'=>v= .tuple #[U ((gv r).1),.int .i64 (gv r).2]∧Wk w w'):=by
 refine enter Tryz.func37 rfl Tryz.ntmps37 rfl ?_
 refine ae (fun _ s=>(e (iw rfl fun I w1 J q hB1=> ?_)))
 have hT1:=hT.wk q.md
 refine p au (aj (((s _ _ (sq (fun _ A=>ae (fun _ C=>(p (fa mu rfl) ?_))))))))
 refine p (ld kA rfl ((hB1.aA 1).trans rfl)) (p (bp ea rfl rfl) (p (dt rfl rfl) (ak ((C _ _ (cd rfl (fun G=> ?_) (fun G=> ?_)))))))
 refine ae (fun _ j=>(p au (aj (((j _ _ (rt (tr ?_))))))))
 refine f2 rfl rfl rfl ?_
 have h1:r.length≠1:=by omega
 exact ⟨by unfold gv; rw [if_pos h1]; rfl,q.md⟩
 refine aE (tn (A _ _ (ae (fun _ j=>(p (fa mu rfl) (p (ld kA rfl ((hB1.aA 1).trans rfl)) (p (aK bO rfl rfl (by omega) (ao.ok (hT1.bK.2) (bL (by omega)))) (p (ld bW rfl (bh.get (i:=0) hT1.bK.2 (by omega))) ?_))))))))
 refine e (cl nz (og (r.getD 0 []) 8192 w1 (by have :=hrl _ (ee (d:= []) (show 0 < r.length by omega)); omega) (by omega)) rfl fun dw w12 E=> ?_)
 obtain ⟨rfl,hE12⟩:=E
 refine p (xt rfl rfl) (p (xt rfl rfl) (p au (aj (((j _ _ (rt (f2 rfl rfl rfl ?_))))))))
 have h1:¬r.length≠1:=by omega
 exact ⟨by unfold gv; rw [if_neg h1]; rfl,q.md.trans hE12⟩
theorem AP (B fb mc:Nat) (F:aH) (V:db) (n:Nat) (r:List Tx) (a8:Nat) (a0:Option Addr) (a2:Nat) (w:World) (aO:bH w B fb mc F V) (bT:∃ seen,fV F [] seen) (ca:Tg w a8 9 r.length (.slice a0 r.length a2) (r.map str)) (hrl:∀ x∈r,x.length≤70000) (hr:r.length≤70000):
 aT Tryz.prog 39 (List.toArray [aW fb,.agg [aB (F.sp.getD 0 0),aB (F.sp.getD 1 0),aB (F.sp.getD 2 0),aB (F.sp.getD 3 0),aB (F.sp.getD 4 0)].toArray,.agg [U n,.slice a0 r.length a2].toArray]) w (fun v w'=>xw w w' (dU F r) v∧Wk w w'):=by
 obtain ⟨seen,ar⟩:=bT
 have hbl:=ar.len
 have hwl:=oS (r.getD 0 [])
 refine enter Tryz.func39 rfl Tryz.ntmps39 rfl ?_
 refine ae (fun _ a9=>(e (iw rfl fun aL w4 cL a6 bP=>e (iw rfl fun cI w5 hb5 aP bQ=>e (al xn fun a1 w6 hb6 ax hB6=> ?_)))))
 have av:Wk w w6:=a6.md.trans (aP.md.trans ax.md)
 have hq4:=ax.md.B (aP.md.B bP)
 have hq5:=ax.md.B bQ
 have hT:=ca.wk av
 have hF6:=aO.wk av
 have hz4:=a6.size
 have hz5:=aP.size
 have hz6:=ax.size
 refine aj (((a9 _ _ (sq (fun _ bi=>ae (fun _ bq=>(p (fa mu rfl) (p (ld kA rfl ((hq5.aA 1).trans rfl)) ?_))))))))
 refine p (bp ea rfl rfl) (p (dt rfl rfl) (ak ((bq _ _ (cd rfl (fun cc=> ?_) (fun cc=> ?_))))))
 refine ae (fun _ aF=>(p (cz (ps:= []) (L:= [.string ⟨⟨[]⟩⟩,.slice none 0 0]) jT rfl (rfl)) (e (bJ ja rfl rfl rfl rfl (hB6) (by simp) fun c1 b3 bN=>aj (((aF _ _ (rt ?_))))))))
 exact tr (et rfl (dd (cs:= [str [],.slice none 0 0]) rfl g5 rfl (fun j C=>bN.bS j)) dJ (⟨.inr ⟨111,A8 (by omega),by decide,rfl⟩,av.trans' b3 (fun q c h=>by omega)⟩))
 have J:r.length=1:=by omega
 have cM:(r.getD 0 []).length≤70000:=hrl _ (ee (by omega))
 refine aE (tn (bi _ _ (ae (fun _ aF=>(p (fa mu rfl) (p (ld kA rfl ((hq5.aA 1).trans rfl)) (p (aK bO rfl rfl (by omega) (ao.ok (hT.bK.2) (bL (by omega)))) (p (ld bW rfl (bh.get (i:=0) hT.bK.2 (by omega))) ?_))))))))
 refine e (cl pq (rm (r.getD 0 []) w6 (by omega)) rfl fun cN w28 b5=> ?_)
 obtain ⟨rfl,ai⟩:=b5
 have hE28x:=av.trans ai
 have hb28:=ai.B hB6
 have hz28:=ai.size
 refine p mv (p (xt rfl rfl) (p (xt rfl rfl) (p (xt rfl rfl) (p (xt rfl rfl) (p au (p au (p au ?_)))))))
 refine aj (((aF _ _ (sq (fun _ bs=>ae (fun _ bt=>(p mv (p (dt rfl rfl) ?_))))))))
 refine ak ((bt _ _ (cd rfl (fun ce=> ?_) (fun ce=> ?_))))
 refine ae (fun _ aI=>(p (cz (ps:= []) (L:= [.string ⟨⟨[]⟩⟩,.slice none 0 0]) jT rfl (rfl)) (p mv (e (bJ ja rfl rfl rfl rfl (hb28) (by simp) fun c2 b4 bR=>aj (((aI _ _ ?_))))))))
 exact rt (tr (et rfl (dd (cs:= [str [],.slice none 0 0]) rfl g5 rfl (fun j C=>bR.bS j)) dJ (⟨.inr ⟨_,pT J (by omega),(by omega),rfl⟩,hE28x.trans' b4 (fun q c h=>by omega)⟩)))
 have Z:(aY (r.getD 0 [])).2.2.2=0:=by omega
 refine aE (tn (bs _ _ (sq (fun _ aI=>ae (fun _ bu=>(p mv (p (bY u9 rfl rfl) (p mv ?_))))))))
 refine ak ((bu _ _ (aw (lp (fun ac E wI=> ∃ (i:Nat),(i≤(aY (r.getD 0 [])).1.length)∧(∀ j,j < i→eR ((aY (r.getD 0 [])).1.getD j 0)=true)∧(Wk w28 wI)∧(E 0=aW fb)∧(E 4=aW aL)∧(E 6=aW a1)∧(E 8=str (aY (r.getD 0 [])).1)∧(E 9=str (aY (r.getD 0 [])).2.1)∧(E 10= .bool (aY (r.getD 0 [])).2.2.1)∧(E 38=U ((aY (r.getD 0 [])).1.length))∧(E 39=U i)∧((aY (r.getD 0 [])).1.length - i=ac)) _ ⟨0,(by omega),((fun j C=>by omega)),(Md.refl _ _),rfl,rfl,rfl,rfl,rfl,rfl,rfl,rfl,rfl⟩ ?_))))
 rintro ac E wI ⟨i,hi,a7,A,cm,cq,cr,ct,cu,cn,co,cp,rfl⟩
 refine fx 0 cm (fx 4 cq (fx 6 cr (fx 8 ct (fx 9 cu (fx 10 cn (fx 38 co (fx 39 cp (ae (fun _ bv=>(p (lt rfl rfl) (ak ((bv _ _ (sq (fun _ ba=>cd rfl (fun cg=> ?_) (fun cg=> ?_))))))))))))))))
 refine aE (tn (ba _ _ (sq (fun _ ay=>aw (ae (fun _ az=>(ag (U i) (p (bD (U i) rfl) ?_))))))))
 refine ak ((az _ _ (ae (fun _ aa=>(ag (str (aY (r.getD 0 [])).1) (ag (U i) (ag (U i) (p (ad rfl rfl (bC (by omega))) ?_))))))))
 refine p (mT u9 rfl rfl rfl (by omega)) (e (cl sF (xb (((aY (r.getD 0 [])).1.take (i+1)).drop i) wI (by rw [vl (by omega)]; simp)) rfl fun cO w47 b6=> ?_))
 obtain ⟨rfl,hE47⟩:=b6
 have hon:=vl (s:=(aY (r.getD 0 [])).1) (i:=i) (by omega)
 have hE47x:=A.trans hE47
 refine p (no rfl) (ak ((aa _ _ (cb rfl (fun aR=> ?_) (fun aR=> ?_)))))
 have aV:eR ((aY (r.getD 0 [])).1.getD i 0)=false :=by rw [← xa,← hon]; simpa using aR
 refine ae (fun _ ab=>(p (cz (ps:= []) (L:= [.string ⟨⟨[]⟩⟩,.slice none 0 0]) jT rfl (rfl)) (e (bJ ja rfl rfl rfl rfl (Wk.B hE47x hb28) (by simp) fun cT bU bw=>aj (((ab _ _ (rt ?_))))))))
 exact br (tr (tr (br (tr (et rfl (dd (cs:= [str [],.slice none 0 0]) rfl g5 rfl (fun j C=>bw.bS j)) dJ (⟨.inr ⟨21,ti J Z (.inl (nr (by omega) aV)),by decide,rfl⟩,(hE28x.trans hE47x).trans' bU (fun q c h=>by omega)⟩))))))
 have aV:eR ((aY (r.getD 0 [])).1.getD i 0)=true :=by rw [← xa,← hon]; simpa using aR
 refine aE (bn (tn (ay _ _ (rg rfl (p (ad rfl rfl (bC (by omega))) (p mv (nl (tn ?_))))))))
 exact ⟨_,by omega,i+1,(by omega),((fun j C=>by rcases Nat.lt_or_ge j i with h | h <;> first | exact a7 j h | (rw [show j=i by omega]; exact aV))),hE47x,rfl,rfl,rfl,rfl,rfl,rfl,rfl,rfl,rfl⟩
 refine ext (te _ (te _ (be (tn (aI _ _ (sq (fun _ ay=>aw (sq (fun _ az=> ?_)))))))))
 refine rg rfl (ag (str (aY (r.getD 0 [])).1) (p (fp rfl rfl) (aj (((az _ _ (cd rfl (fun Y=> ?_) (fun Y=> ?_))))))))
 refine ae (fun _ aa=>(p (cz (ps:= []) (L:= [.string ⟨⟨[]⟩⟩,.slice none 0 0]) jT rfl (rfl)) (e (bJ ja rfl rfl rfl rfl (Wk.B A hb28) (by simp) fun cU bV bx=>aj (((aa _ _ (rt ?_))))))))
 exact br (tr (et rfl (dd (cs:= [str [],.slice none 0 0]) rfl g5 rfl (fun j C=>bx.bS j)) dJ (⟨.inr ⟨21,ti J Z (.inr Y),by decide,rfl⟩,(hE28x.trans A).trans' bV (fun q c h=>by omega)⟩)))
 have hby:=nu (w:=(aY (r.getD 0 [])).1) (fun j C=>a7 j (by omega))
 refine ae (fun _ aa=>(ag (str (aY (r.getD 0 [])).1) (p (bY u9 rfl rfl) (p (gt rfl rfl) (aj (((aa _ _ ?_))))))))
 refine cd rfl (fun ch=> ?_) (fun ch=> ?_)
 refine ae (fun _ ab=>(p (cz (ps:= []) (L:= [.string ⟨⟨[]⟩⟩,.slice none 0 0]) jT rfl (rfl)) (e (bJ ja rfl rfl rfl rfl (Wk.B A hb28) (by simp) fun cV bX bA=>aj (((ab _ _ (rt ?_))))))))
 exact br (tr (et rfl (dd (cs:= [str [],.slice none 0 0]) rfl g5 rfl (fun j C=>bA.bS j)) dJ (⟨.inr ⟨22,A9 J Z hby Y (by omega),by decide,rfl⟩,(hE28x.trans A).trans' bX (fun q c h=>by omega)⟩)))
 refine ae (fun _ ab=>(ag (.bool (aY (r.getD 0 [])).2.2.1) (p (no rfl) (aj (((ab _ _ (cb rfl (fun am=> ?_) (fun am=> ?_)))))))))
 refine ae (fun _ aC=>(ag (str (aY (r.getD 0 [])).1) (p (cz (ps:= [(0,str (aY (r.getD 0 [])).1)]) (L:= [str (aY (r.getD 0 [])).1,.slice none 0 0]) jT rfl (rfl)) (e (bJ ja rfl rfl rfl rfl (Wk.B A hb28) (by simp) fun cW bZ bE=>aj (((aC _ _ ?_))))))))
 exact rt (br (tr (et rfl (dd (cs:= [str (aY (r.getD 0 [])).1,.slice none 0 0]) rfl g5 rfl (fun j C=>bE.bS j)) dJ (⟨.inl ⟨_,.slice none 0 0,tj J Z hby Y (by omega) (by simpa using am),rfl,World.ownsRow_nil _ _ _ _⟩,(hE28x.trans A).trans' bZ (fun q c h=>by omega)⟩))))
 refine aE (bn (tn (ay _ _ (ae (fun _ aC=>(ag (aW fb) (ag (str (aY (r.getD 0 [])).2.1) (e (cl sG (tz B fb mc F V (aY (r.getD 0 [])).2.1 wI (hF6.wk (ai.trans A)) ar.kd ar.al (by omega) (by omega)) rfl fun cE w68 b7=> ?_)))))))))
 obtain ⟨ck,aM⟩:=b7
 have hE68x:=hE28x.trans (A.trans aM)
 have hb68:=Wk.B (A.trans aM) hb28
 obtain ⟨cF,cJ,rfl,hcs⟩:∃ a,∃ e:Nat,cE= .tuple #[a,U e]∧((e=0∧∃ l,dV F.kind F.aliases (aY (r.getD 0 [])).2.1= .ok l∧World.ownsRow w68 wI.heap.size 71 1 a l.length (l.map aB))∨(e≠0∧dV F.kind F.aliases (aY (r.getD 0 [])).2.1= .error e)):=by
  rcases ck with ⟨a,l,h1,h2,h3⟩ | ⟨a,e,h1,h2,h3⟩
  exact ⟨a,0,h1,.inl ⟨rfl,l,h2,h3⟩⟩
  exact ⟨a,e,h1,.inr ⟨h2,h3⟩⟩
 refine p mv (p (xt rfl rfl) (p (xt rfl rfl) (p au (aj (((aC _ _ (sq (fun _ bb=> ?_)))))))))
 refine ae (fun _ bd=>(p mv (p (dt rfl rfl) (ak ((bd _ _ (cd rfl (fun ci=> ?_) (fun ci=> ?_))))))))
 obtain ⟨hne,an⟩:=hcs.resolve_left (fun h=>by omega)
 refine ae (fun _ aD=>(p (cz (ps:= []) (L:= [.string ⟨⟨[]⟩⟩,.slice none 0 0]) jT rfl (rfl)) (p mv (e (bJ ja rfl rfl rfl rfl (hb68) (by simp) fun cY b0 bG=>aj (((aD _ _ ?_))))))))
 exact rt (tr (et rfl (dd (cs:= [str [],.slice none 0 0]) rfl g5 rfl (fun j C=>bG.bS j)) dJ (⟨.inr ⟨_,Ba J Z hby Y (by omega) (by simpa using am) an,hne,rfl⟩,hE68x.trans' b0 (fun q c h=>by omega)⟩)))
 obtain ⟨_,set,an,ap⟩:=hcs.resolve_right (fun h=>by omega)
 obtain ⟨M,O,rfl⟩:=cH ap
 have hsl:=pZ (fun l hl=>(ar.al l hl).1) an
 refine aE (tn (bb _ _ (sq (fun _ aD=>ae (fun _ bf=>(p mv (p (bp GF rfl rfl) (p mv ?_))))))))
 refine ak ((bf _ _ (aw (lp (fun ac G aX=> ∃ (j:Nat),(j≤set.length)∧(∀ q,q < j→cX F (set.getD q 0)=true)∧(Wk w68 aX)∧(G 0=aW fb)∧(G 4=aW aL)∧(G 6=aW a1)∧(G 8=str (aY (r.getD 0 [])).1)∧(G 13= .slice M set.length O)∧(G 75= .slice M set.length O)∧(G 76=U (set.length))∧(G 77=U j)∧(set.length - j=ac)) _ ⟨0,(by omega),((fun q c=>by omega)),(Md.refl _ _),rfl,rfl,rfl,rfl,rfl,rfl,rfl,rfl,rfl⟩ ?_))))
 rintro ac G aX ⟨j,C,aQ,I,cv,cx,cy,cD,cw,cA,cB,cC,rfl⟩
 refine fx 0 cv (fx 4 cx (fx 6 cy (fx 8 cD (fx 13 cw (fx 75 cA (fx 76 cB (fx 77 cC (ae (fun _ bj=>(p (lt rfl rfl) (ak ((bj _ _ (sq (fun _ bk=>cd rfl (fun cj=> ?_) (fun cj=> ?_))))))))))))))))
 refine aE (tn (bk _ _ (sq (fun _ aq=>aw (ae (fun _ bl=>(p (aK Bx rfl rfl (by omega) (ao.ok ((aG (aJ ap I)).2) (bL (by omega)))) (p (ld bg rfl (ao.gG (aG (aJ ap I)).2 (show (set.map aB)[j]? =some (aB (set.getD j 0)) by rw [List.getElem?_map,List.getD_eq_getElem?_getD,List.getElem?_eq_getElem (by omega :j < set.length)]; rfl))) ?_))))))))
 refine aj (((bl _ _ (ae (fun _ bm=>(ag (aW fb) (p mv (e (cl sE (tv B fb mc F V (set.getD j 0) aX (aO.wk (hE68x.trans I)) (by omega)) rfl fun cP cR b8=> ?_)))))))))
 obtain ⟨rfl,a3⟩:=b8
 have hz84:=a3.size
 have hzJ:=I.size
 refine p mv (p (xt rfl rfl) (p (xt rfl rfl) (e (al m3 fun cG w16 hb16 a5 bB=>e (bJ lk rfl rfl rfl rfl (bB) (by simp) fun wt24_7 b1 cK=> ?_)))))
 have hz16:=a5.size
 have ah:Wk w68 wt24_7:=(I.trans (a3.trans a5.md)).trans' b1 (fun q c h=>by omega)
 refine aj (((bm _ _ (ae (fun _ aZ=>(p mv (p (no rfl) (p mv ?_))))))))
 refine gb (t:=89) rfl (fun aU=> ?_) (fun aU=> ?_)
 refine pg rfl rfl rfl (x5 o6 rfl) (pg rfl rfl rfl mv (eg rfl rfl rfl (cl zk (Af (some ⟨aL,0,none⟩) 5 [F.sp.getD 0 0,F.sp.getD 1 0,F.sp.getD 2 0,F.sp.getD 3 0,F.sp.getD 4 0] (set.getD j 0) wt24_7 (ao.dz (Wk.B ((ai.trans (A.trans aM)).trans ah) hq4)) (by simp)) rfl fun cQ cS b9=> ?_)))
 obtain ⟨rfl,aN⟩:=b9
 rw [F7 aO.fT] at*
 refine pg rfl rfl rfl (no rfl) (p (bz rfl) (ak ((aZ _ _ (cb rfl (fun aS=> ?_) (fun aS=> ?_))))))
 refine ae (fun _ bo=>(p (cz (ps:= []) (L:= [.string ⟨⟨[]⟩⟩,.slice none 0 0]) jT rfl (rfl)) (e (bJ ja rfl rfl rfl rfl (Wk.B (ah.trans aN) hb68) (by simp) fun cZ b2 bI=>aj (((bo _ _ (rt ?_))))))))
 exact br (tr (tr (br (tr (et rfl (dd (cs:= [str [],.slice none 0 0]) rfl g5 rfl (fun j C=>bI.bS j)) dJ (⟨.inr ⟨120,Bb J Z hby Y (by omega) (by simpa using am) an (i:=j) (by omega) (AJ (by simpa using aU) (by simpa using aS)),by decide,rfl⟩,(hE68x.trans (ah.trans aN)).trans' b2 (fun q c h=>by omega)⟩))))))
 refine aE (bn (tn (aq _ _ (rg rfl (p (ad rfl rfl (bC (by omega))) (p mv (nl (tn ?_))))))))
 exact ⟨_,by omega,j+1,(by omega),((fun q c=>by rcases Nat.lt_or_ge q j with h | h <;> first | exact aQ q h | (rw [show q=j by omega]; exact s8 (.inr (by simpa using aS))))),(ah.trans aN),rfl,rfl,rfl,rfl,rfl,rfl,rfl,rfl,rfl⟩
 refine sk rfl rfl rfl rfl (sk rfl rfl rfl rfl (sk rfl rfl rfl rfl (sk rfl rfl rfl rfl (p (bc rfl) (ak ((aZ _ _ (cf rfl ?_))))))))
 refine aE (bn (tn (aq _ _ (rg rfl (p (ad rfl rfl (bC (by omega))) (p mv (nl (tn ?_))))))))
 exact ⟨_,by omega,j+1,(by omega),((fun q c=>by rcases Nat.lt_or_ge q j with h | h <;> first | exact aQ q h | (rw [show q=j by omega]; exact s8 (.inl (by simpa using aU))))),ah,rfl,rfl,rfl,rfl,rfl,rfl,rfl,rfl,rfl⟩
 refine ext (te _ (te _ (be (tn (aD _ _ (ae (fun _ aq=>(ag (str (aY (r.getD 0 [])).1) ?_))))))))
 refine ag (.slice M set.length O) (p (cz (ps:= [(0,str (aY (r.getD 0 [])).1),(1,.slice M set.length O)]) (L:= [str (aY (r.getD 0 [])).1,.slice M set.length O]) jT rfl (rfl)) (e (bJ ja rfl rfl rfl rfl (Wk.B I hb68) (by simp) fun c0 a4 bM=>aj (((aq _ _ (rt (et rfl (dd (cs:= [str (aY (r.getD 0 [])).1,.slice M set.length O]) rfl g5 rfl (fun j C=>bM.bS j)) dJ ?_))))))))
 exact ⟨.inl ⟨((aY (r.getD 0 [])).1,set),.slice M set.length O,tk J Z hby Y (by omega) (by simpa using am) an (fun j C=>aQ j (by omega)),rfl,gk (bF (aJ ap I) a4 (fun q c h=>by have :=(c4 ap c).1; have :=A.size; omega)) (by have :=A.size; omega)⟩,(hE68x.trans I).trans' a4 (fun q c h=>by omega)⟩
end Go.Hb.jZ
end
section
set_option maxRecDepth 20000
set_option maxHeartbeats 1000000
namespace Go.Hb.ks
open Go.Hb.cU
open Go.Proofs
open Go.Hb.eK Go.Hb.fg Go.Hb.fz Go.Hb.iP Go.Hb.kq Go.Hb.l2 Go.Hb.ju Go.Hb.gX Go.Hb.jX Go.Hb.fJ Go.Hb.jx Go.Hb.jZ Go.Hb.jy Go.Hb.gZ Go.Hb.m8 Go.Hb.m4 Go.Hb.fY Go.Hb.fX
theorem Cl:pY Tryz.prog 87 3=some (81,3):=by kernel_rfl
def hU (q:bV×Value):List Value:= [str q.1.1,q.2]
def gL (l:List (bV×Value)):List Value:=l.flatMap hU
theorem A6 (l:List (bV×Value)) (q:bV×Value):gL (l++ [q])=gL l++hU q:=by simp [gL]
theorem A7 (l:List (bV×Value)):(gL l).length=l.length*2:=ka (f:=hU) (m:=2) (fun _=>rfl) l
theorem kU {w:World} {B e size n k:Nat} {v:Value} {xs:List Value} (h:World.ownsRow w B e size v n xs) (hk:v.ownBlock=some k) (a:∀ cur z,w.heap[k]?≠some (.cells cur e z)):False:=by
 rcases h.2 with ⟨rfl,rfl⟩ | ⟨g,cap,cur,rfl,_,hg,_⟩
 · cases hk
 · have e1:g=k:=by simpa [Value.ownBlock] using hk
   subst e1
   exact a _ _ hg
structure iS (w:World) (B:Nat) (f:Value→Option Value) (xs:List bV):Prop where
 own:∀ s:Tx,World.ownsRow w B 3 1 ((f (str s)).getD (Value.slice none 0 0)) (idxs s xs).length ((idxs s xs).map m6)
 nil:∀ s:Tx,idxs s xs= []→(f (str s)).getD (Value.slice none 0 0)=(Value.slice none 0 0)
theorem iS.md {G:Nat→Prop} {w w':World} {B:Nat} {f:Value→Option Value} {xs:List bV} (h:iS w B f xs) (hm:Md G w w') (a:∀ k,G k→∀ cur z,w.heap[k]?≠some (.cells cur 3 z)):iS w' B f xs:=by
 refine ⟨fun s=> ?_,h.nil⟩
 refine bF (h.own s) hm (fun k hk hg=> ?_)
 exact kU (h.own s) hk (fun cur z hc=>a k hg cur z hc)
theorem qO {w:World} {B j k n c:Nat} {v v':Value} {xs i:List Value} (h:World.ownsRow w B 3 1 v n xs) (q:World.ownsRow w j 3 1 v' c i) (hk:v.ownBlock=some k) (s:v'.ownBlock=some k) (hn:0 < n) (I:0 < c):xs[0]? =i[0]? :=by
 rcases h.2 with ⟨rfl,rfl⟩ | ⟨g,cap,cur,rfl,_,hg,_,_,_,A⟩
 · omega
 · rcases q.2 with ⟨rfl,rfl⟩ | ⟨p,E,G,rfl,_,a,_,_,_,C⟩
   · omega
   · have e1:g=k:=by simpa [Value.ownBlock] using hk
     have e2:p=k:=by simpa [Value.ownBlock] using s
     subst e1 e2
     rw [hg] at a
     cases a
     rw [← A,← C,List.getElem?_take,List.getElem?_take,if_pos (by omega),if_pos (by omega)]
theorem iS.sep {w:World} {B k:Nat} {f:Value→Option Value} {xs:List bV} {s t:Tx} (h:iS w B f xs) (hne:s≠t) (hs:((f (str s)).getD (Value.slice none 0 0)).ownBlock=some k):((f (str t)).getD (Value.slice none 0 0)).ownBlock≠some k:=by
 intro a
 have p:idxs s xs≠[]:=fun e=>by rw [h.nil s e] at hs; cases hs
 have q:idxs t xs≠[]:=fun e=>by rw [h.nil t e] at a; cases a
 have he:=qO (h.own s) (h.own t) hs a (List.length_pos_iff.2 p) (List.length_pos_iff.2 q)
 cases h1:idxs s xs with
 | nil=>exact p h1
 | cons i l=>
   cases h2:idxs t xs with
   | nil=>exact q h2
   | cons j m=>
     rw [h1,h2] at he
     have A:i=j:=by have h:=he; simp only [List.map_cons,List.getElem?_cons_zero,Option.some.injEq,m6,Value.int.injEq,true_and] at h; omega
     subst A
     have m1:i∈idxs s xs:=by rw [h1]; simp
     have c:i∈idxs t xs:=by rw [h2]; simp
     unfold idxs at m1 c
     have q1:=of_decide_eq_true (List.mem_filter.1 m1).2
     have q2:=of_decide_eq_true (List.mem_filter.1 c).2
     exact hne (q1.symm.trans q2)
theorem iS.put {w w1 q:World} {B p:Nat} {f:Value→Option Value} {xs:List bV} {x:bV} {v:Value} (h:iS w B f xs) (hm:Md (fun k=>((f (str x.1)).getD (Value.slice none 0 0)).ownBlock=some k) w w1)
 (j:World.ownsRow w1 B 3 1 v (idxs x.1 xs++ [xs.length]).length ((idxs x.1 xs++ [xs.length]).map m6)) (i:∀ cur z,w1.heap[p]?≠some (.cells cur 3 z)) (c:Md (fun k=>k=p) w1 q):iS q B (a3 f (str x.1) v) (xs++ [x]):=by
 refine ⟨fun s=> ?_,fun s hs=> ?_⟩
 · by_cases a:x.1=s
   · subst a
     rw [mO,ql,if_pos rfl]
     exact bF j c (fun k hk hg=>kU j hk (fun cur z hc=>i cur z (hg ▸ hc)))
   · rw [lM (fun e=>a (str_inj.1 e).symm),ql,if_neg a,List.append_nil]
     have h1:=bF (h.own s) hm (fun k hk hg=>h.sep a hg hk)
     exact bF h1 c (fun k hk hg=>kU h1 hk (fun cur z hc=>i cur z (hg ▸ hc)))
 · rw [ql] at hs
   by_cases a:x.1=s
   · rw [if_pos a] at hs; simp at hs
   · rw [if_neg a,List.append_nil] at hs
     rw [lM (fun e=>a (str_inj.1 e).symm)]; exact h.nil s hs
structure gY (w:World) (B wb mb:Nat) (va:Value) (vs:List Value) (xs:List bV):Prop where
 cells:w.heap[wb]? =some (.cells [va,.map (some mb)].toArray 108 (0,0))
 own:World.ownsRow w B 56 2 va xs.length (gL (xs.zip vs))
 fl:bN w B 71 vs (xs.map (·.2))
 mp:∃ f,bl w.heap mb eH f∧iS w B f xs
theorem gY.md {G:Nat→Prop} {w w':World} {B j a:Nat} {i:Value} {vs:List Value} {xs:List bV} (h:gY w B j a i vs xs) (hm:Md G w w') {L:List Nat} (hT:TF w L G) (c:(L.contains 110 || L.contains 58 || L.contains 73 || L.contains 5)=false) (q:¬G a):gY w' B j a i vs xs:=by
 simp only [Bool.or_eq_false_iff] at c
 obtain ⟨⟨⟨h1,h2⟩,h3⟩,h4⟩:=c
 obtain ⟨f,hf,p⟩:=h.mp
 exact ⟨hm.g6 hT h.cells h1,cB h.own hm hT h2,h.fl.md hm (fun k hk cur z hg=>hT.no (c6 hg) h3 hk),⟨f,hf.md hm q,p.md hm (fun k hk cur z hg=>hT.no (c6 hg) h4 hk)⟩⟩
theorem gY.wk {w w':World} {B i a:Nat} {c:Value} {vs:List Value} {xs:List bV} (h:gY w B i a c vs xs) (hm:Wk w w'):gY w' B i a c vs xs:=h.md (L:= []) hm (fun _ hk=>hk.elim) rfl id
theorem AS {F:aH} {t:Tx} {ln:Nat} {row:List Tx} {rows:List Rw} (h:¬65536 < t.length) (h1:cT t=(ln,row)::rows) (h2:(gv row).2≠0):∃ e:Nat,(gv row).2=(e:Int)∧dI F t= .error (ln,e):=by
 unfold gv at h2 ⊢
 by_cases hr:row.length≠1
 · rw [if_pos hr]; exact ⟨111,rfl,AX h h1 hr⟩
 · rw [if_neg hr] at h2 ⊢
   have h3:=od (s:=row.getD 0 []) (most:=8192) h2
   exact ⟨13,h3.2,A0 h h1 (Classical.not_not.1 hr) h3.1⟩
theorem AT {F:aH} {t:Tx} {ln:Nat} {row:List Tx} {rows:List Rw} (h:¬65536 < t.length) (h1:cT t=(ln,row)::rows) (h2:(gv row).2=0):∃ n:Nat,(gv row).1=n∧n≤8192∧dI F t=cI F ((aC t).length+1) n rows:=by
 unfold gv at h2 ⊢
 by_cases hr:row.length≠1
 · rw [if_pos hr] at h2; cases h2
 · rw [if_neg hr] at h2 ⊢
   exact ⟨_,rfl,by have :=oc (row.getD 0 []) 8192 h2; omega,s9 h h1 (Classical.not_not.1 hr) (oe h2)⟩
theorem wv {u:Tx} {a:Value} (h:a.oneCell'=true):[str u,a].all Value.oneCell'=true :=by rw [List.all_cons,List.all_cons,h]; rfl
def oV (l e:Nat):Value:= .agg [.int .i64 2,.int .i64 (l:Nat),.int .i64 (e:Nat)].toArray
def xv (w':World) (B0:Nat) (xs:List bV) (v:Value):Prop := ∃ B a c i vs,B0≤B∧v= .tuple #[.pointer (some ⟨a,0,none⟩),.agg [.int .i64 0,.int .i64 0,.int .i64 0].toArray]∧gY w' B a c i vs xs∧B0≤a∧B0≤c
def xu (e:Nat×Nat) (v:Value):Prop :=v= .tuple #[.pointer none,oV e.1 e.2]
def gD (F:aH) (t:Tx) (w:World) (v:Value) (w':World):Prop :=(match dI F t with | .ok xs=>xv w' w.heap.size xs v | .error e=>xu e v)∧Wk w w'
theorem gD.no {F:aH} {t:Tx} {w w':World} {l e:Nat} (h:dI F t= .error (l,e)) (hm:Wk w w'):gD F t w (.tuple #[.pointer none,.agg [.int .i64 2,.int .i64 (l:Nat),.int .i64 (e:Nat)].toArray]) w':=by
 unfold gD; rw [h]; exact ⟨rfl,hm⟩
theorem kM (B fb mc:Nat) (F:aH) (V:db) (t:Tx) (w:World) (bL:bH w B fb mc F V) (cW:∃ seen,fV F [] seen) (hnx:Nx F) (hs:t.length≤1048576):
 aT Tryz.prog 11 (List.toArray [aW fb,str t]) w (gD F t w):=by
 refine enter Tryz.func11 rfl Tryz.ntmps11 rfl ?_
 refine ae (fun _ cb=>(p au (e (fZ fy fun a5 w5 hb5 bO bE=> ?_))))
 have bB:ba w5.heap a5 [.int .i64 0,.int .i64 0,.int .i64 0]:=⟨_,bE⟩
 refine ak ((cb _ _ (sq (fun _ cm=>ae (fun _ cq=>(ag (aW fb) (p (e8 km rfl rfl) (nl ?_))))))))
 refine tn (cq _ _ (cf (rfl) (aE (tn (cm _ _ (ae (fun _ cr=>(ag (str t) (e (cl sx (wa t _ hs) rfl fun eA bt dh=> ?_))))))))))
 obtain ⟨⟨eg,rfl,b0⟩,hE22⟩:=dh
 have hE22x:=bO.md.trans hE22
 have hz5:=bO.size
 refine p mv (p (xt rfl rfl) (p (xt rfl rfl) (p au (aj (((cr _ _ (sq (fun _ ct=> ?_)))))))))
 refine ae (fun _ cu=>(p mv (p (dt rfl rfl) (ak ((cu _ _ (cd rfl (fun bo=> ?_) (fun bo=> ?_))))))))
 have bY:65536 < t.length:=Classical.byContradiction fun h=>bo (by rw [if_neg h])
 refine ae (fun _ a3=>(p mv (e (cl lh (ll 0 (if 65536 < t.length then 10 else 0) bt) rfl fun eB w28 dk=> ?_))))
 obtain ⟨rfl,a8⟩:=dk
 have hz28:=(hE22.trans a8).size
 refine p au (e (bJ dO rfl rfl rfl rfl (Wk.B (hE22.trans a8) bB) (by simp) fun eW c8 cS=>ak ((a3 _ _ (rt (tr (et rfl dJ (dd (cs:= [.int .i64 2,.int .i64 0,.int .i64 (if 65536 < t.length then 10 else 0)]) rfl fE rfl (fun j ab=>cS.bS j)) ?_)))))))
 have h:=gD.no (F:=F) (AY bY) ((hE22x.trans a8).trans' c8 (fun q A h=>by omega))
 show gD F t w (.tuple #[.pointer none,.agg [.int .i64 2,.int .i64 0,.int .i64 (if 65536 < t.length then 10 else 0)].toArray]) _
 rw [if_pos bY]
 exact h
 have ay:¬65536 < t.length:=fun h=>bo (by rw [if_pos h]; decide)
 rw [if_neg ay] at b0
 obtain ⟨b9,jF,rfl⟩:=cH b0
 have hll:=ib t
 refine aE (tn (ct _ _ (ae (fun _ a3=>(ag (str t) (e (cl sw (vL t _ hs) rfl fun eC w31 dl=> ?_)))))))
 obtain ⟨⟨eh,rfl,hcs⟩,hE31⟩:=dl
 rw [if_neg ay] at hcs
 obtain ⟨ca,aS,aV⟩:=hcs
 obtain ⟨bv,aF,rfl⟩:=cH aS
 have hE31x:=hE22x.trans hE31
 have hb5x:=Wk.B (hE22.trans hE31) bB
 have hz31:=(hE22.trans hE31).size
 have hrl:=vJ t
 refine p mv (p (xt rfl rfl) (p (xt rfl rfl) (p au (aj (((a3 _ _ (sq (fun _ cw=> ?_)))))))))
 refine ae (fun _ cx=>(p mv (p (bp oK rfl rfl) (p (bu rfl rfl) (ak ((cx _ _ (cd rfl (fun bq=> ?_) (fun bq=> ?_)))))))))
 have dX:cT t= []:=List.eq_nil_of_length_eq_zero (by omega)
 refine ae (fun _ aX=>(p mv (p (bp ea rfl rfl) (p (bd (((aC t).length+1:Nat):Int) rfl rfl (aO (by omega) (by omega))) (e (cl lh (ll ((aC t).length+1:Nat) 116 w31) rfl fun eD eN dn=> ?_))))))
 obtain ⟨rfl,a9⟩:=dn
 have hz40:=a9.size
 exact p au (e (bJ dO rfl rfl rfl rfl (Wk.B a9 hb5x) (by simp) fun eX c9 cU=>ak ((aX _ _ (rt (tr (et rfl dJ (dd (cs:= [.int .i64 2,U ((aC t).length+1),.int .i64 116]) rfl fE rfl (fun j ab=>cU.bS j)) (gD.no (AZ ay dX) ((hE31x.trans a9).trans' c9 (fun q A h=>by omega))))))))))
 obtain ⟨⟨ln0,an⟩,rest,hrw⟩:∃ q rest,cT t=q::rest:=by
  cases h:cT t with
  | nil=>rw [h] at bq; exact absurd rfl bq
  | cons q rest=>exact ⟨q,rest,rfl⟩
 have hvl:=aV.1
 rw [hrw] at aS aV hvl hrl
 obtain ⟨⟨q1,q2⟩,rvs',rfl⟩:∃ q vs',ca=q::vs':=by
  cases ca with
  | nil=>exact absurd hvl (by simp)
  | cons q vs'=>exact ⟨q,vs',rfl⟩
 obtain ⟨hq1,hq2⟩:=aV.2 0 (q1,q2) (ln0,an) rfl rfl
 obtain rfl :q1=ln0:=hq1
 obtain ⟨cy,cA,rfl⟩:=hq2.slice
 have hCr0:=(aG aS).2
 have hcr:=(aG aS).1
 have b2:∀ q∈(q1,an)::rest,q.2.length≤70000∧∀ x∈q.2,x.length≤70000:=fun q A=>by
  have h:=vK (show q∈cT t by rw [hrw]; exact A)
  exact ⟨by omega,fun x eb=>by have :=(h.2.2.2.2 x eb).2; omega⟩
 have hm0:=b2 _ (List.mem_cons_self ..)
 simp only [List.length_cons] at hvl hrl hcr
 refine aE (tn (cw _ _ (ae (fun _ aX=>(p mv (p (aK ly rfl rfl (by rw [hrw]; simp only [List.length_cons]; omega) (ao.ok (hCr0) (ou (by simp)))) (p (cR nf rfl (rfl) (ov (i:=0) hCr0 rfl)) (e (cl y2 (AU q1 an bt.heap.size cy cA w31 hq2 hm0.2 hm0.1) rfl fun eF w45 dq=> ?_)))))))))
 obtain ⟨rfl,hE45⟩:=dq
 have hz45:=hE45.size
 refine p mv (p (xt rfl rfl) (p (xt rfl rfl) (p au (aj (((aX _ _ (sq (fun _ cc=> ?_)))))))))
 refine ae (fun _ ce=>(p mv (p (dt rfl rfl) (ak ((ce _ _ (cd rfl (fun bZ=> ?_) (fun bZ=> ?_))))))))
 obtain ⟨el,dR,bm⟩:=AS (F:=F) ay hrw bZ
 refine ae (fun _ aY=>(p mv (p (aK ly rfl rfl (by rw [hrw]; simp only [List.length_cons]; omega) (ao.ok (hCr0.wk hE45) (ou (by simp)))) (p (fa nT rfl) (p (ld dN rfl (ov (i:=0) (hCr0.wk hE45) rfl 0 (by decide))) (p mv (e (cl lh (ll (q1:Nat) (gv an).2 w45) rfl fun eG eO dr=> ?_))))))))
 obtain ⟨rfl,bb⟩:=dr
 have hz55:=bb.size
 refine p au (e (bJ dO rfl rfl rfl rfl (Wk.B (hE45.trans bb) hb5x) (by simp) fun eR c2 cD=>ak ((aY _ _ (rt (tr (et rfl dJ (dd (cs:= [.int .i64 2,U q1,.int .i64 (gv an).2]) rfl fE rfl (fun j ab=>cD.bS j)) ?_)))))))
 have h:=gD.no bm ((hE31x.trans (hE45.trans bb)).trans' c2 (fun q A h=>by omega))
 show gD F t w (.tuple #[.pointer none,.agg [.int .i64 2,U q1,.int .i64 (gv an).2].toArray]) _
 rw [dR]
 exact h
 obtain ⟨n,hn0,ew,bm⟩:=AT (F:=F) ay hrw (show (gv an).2=0 by omega)
 have hFB:=bL.wk (hE31x.trans hE45)
 obtain ⟨seen,bG⟩:=cW
 have hbl:=bG.len
 refine aE (tn (cc _ _ (ae (fun _ aY=>(e (mI fun J w56 eo bj cP=> ?_))))))
 have hz56:=bj.size
 refine p (cz (ps:= [(1,.map (some J))]) (L:= [.slice none 0 0,.map (some J)]) Gf rfl (rfl)) (e (o8 rfl fun C w58 ep aR cQ=> ?_))
 have hz58:=aR.size
 have hE58:=hE45.trans (bj.md.trans aR.md)
 refine aj (((aY _ _ (ae (fun _ cg=>(ag (aW fb) (e (cl y3 (xK B fb mc F V w58 (hFB.wk (bj.md.trans aR.md)) (by omega) hnx) rfl fun eI w60 ds=> ?_))))))))
 obtain ⟨⟨ef,rfl,_⟩,hE60⟩:=ds
 have hz60:=hE60.size
 refine p (B3 Cl rJ rfl rfl) (e (al Hg fun a4 w12 hb12 aN cE=> ?_))
 have hz12:=aN.size
 refine e (bJ AE rfl rfl rfl rfl (cE) (by simp) fun wt13_4 aL cF=> ?_)
 have cZ:Wk w31 wt13_4:=(hE58.trans (hE60.trans aN.md)).trans' aL (fun q A h=>by omega)
 have hz13:=aL.size
 have dH:wt13_4.heap[C]? =some (.cells [.slice none 0 0,.map (some J)].toArray 108 (0,0)):=aL.aw (Wk.aw (hE60.trans aN.md) cQ) (fun h=>by omega)
 have dT:bl wt13_4.heap J eH (fun _=>none):=bl.md (bl.wk (bl.nil cP) (aR.md.trans (hE60.trans aN.md))) aL (fun h=>by omega)
 have dB:gY wt13_4 wt13_4.heap.size C J (.slice none 0 0) [] []:=⟨dH,World.ownsRow_nil _ _ _ _,bN.nil _ _ _,⟨_,dT,⟨fun s=>World.ownsRow_nil _ _ _ _,fun s _=>rfl⟩⟩⟩
 have dE:ba wt13_4.heap a4 [aB (F.sp.getD 0 0),aB (F.sp.getD 1 0),aB (F.sp.getD 2 0),aB (F.sp.getD 3 0),aB (F.sp.getD 4 0)]:=cF
 have bI:ao w31.heap (dm bv aF 1 2) (gR rvs'):=by
  have h:=hCr0.drop (cap:=aF) (k:=1) (size:=2) (by rw [vO]; simp only [List.length_cons]; omega)
  exact h
 have dD:eL F ((aC t).length+1) (dI F t) [] (n - 0) (rest.drop 0):=by rw [bm]; exact eL.start
 refine ak ((cg _ _ (sq (fun _ ch=>ae (fun _ ci=>(p mv (p (kj ly rfl rfl (by rw [hrw]; simp only [List.length_cons]; omega)) (p (bp oK rfl rfl) ?_))))))))
 refine p mv (ak ((ci _ _ (aw (lp (fun bz O wI=> ∃ (i:Nat) (xs:List bV) (vs:List Value) (ac:Value),(i≤rest.length∧i≤n)∧(xs.length=i)∧(eL F ((aC t).length+1) (dI F t) xs (n - i) (rest.drop i))∧(gY wI wt13_4.heap.size C J ac vs xs)∧(Wk w31 wI)∧(ba wI.heap a4 [aB (F.sp.getD 0 0),aB (F.sp.getD 1 0),aB (F.sp.getD 2 0),aB (F.sp.getD 3 0),aB (F.sp.getD 4 0)])∧(wt13_4.heap.size≤wI.heap.size)∧(O 0=aW fb)∧(O 5=aW a5)∧(O 6= .slice b9 (aC t).length jF)∧(O 10=U n)∧(O 11=aW C)∧(O 12=aW a4)∧(O 63= .slice (dm bv aF 1 2) rest.length (aF - 1))∧(O 64=U (rest.length))∧(O 65=U i)∧(rest.length - i=bz)) _ ⟨0,[],[],.slice none 0 0,(by omega),rfl,dD,dB,cZ,dE,(Nat.le_refl _),rfl,rfl,rfl,(by first | rfl | (rw [← hn0]; rfl)),rfl,rfl,(by first | rfl | (rw [hrw]; rfl)),(by first | rfl | (rw [hrw]; rfl)),rfl,rfl⟩ ?_)))))
 rintro bz O wI ⟨i,xs,vs,ac,hi,hxl,Y,ar,I,bU,ex,d1,d5,d6,d2,d3,d4,d7,d8,d9,rfl⟩
 refine fx 0 d1 (fx 5 d5 (fx 6 d6 (fx 10 d2 (fx 11 d3 (fx 12 d4 (fx 63 d7 (fx 64 d8 (fx 65 d9 (ae (fun _ cj=>(p (lt rfl rfl) (ak ((cj _ _ (sq (fun _ ck=>cd rfl (fun dL=> ?_) (fun dL=> ?_)))))))))))))))))
 refine aE (tn (ck _ _ (sq (fun _ aZ=>aw (sq (fun _ a0=> ?_))))))
 obtain ⟨⟨ln,r⟩,hri⟩:∃ q,rest[i]? =some q:=⟨_,List.getElem?_eq_getElem (by omega)⟩
 have dQ:rest.drop i=(ln,r)::rest.drop (i+1):=by rw [List.drop_eq_getElem_cons (by omega)]; rw [List.getElem?_eq_getElem (by omega)] at hri; rw [Option.some.inj hri]
 obtain ⟨p,b8⟩:∃ p,rvs'[i]? =some p:=⟨_,List.getElem?_eq_getElem (by omega)⟩
 obtain ⟨e1,bT⟩:=aV.2 (i+1) p (ln,r) b8 hri
 obtain ⟨ln0x,ey⟩:=p
 obtain rfl :ln=ln0x:=e1.symm
 obtain ⟨a,c,rfl⟩:=bT.slice
 have hmr:=b2 (ln,r) (List.mem_cons_of_mem _ (List.mem_of_getElem? hri))
 rw [dQ] at Y
 refine rg rfl (ag (U i) (p (aK ly rfl rfl (by omega) (ao.ok (bI.wk I) (ou (by omega)))) (p (cR nf rfl (rfl) (ov (bI.wk I) b8)) (e (al xl fun bw w14 hb14 bi cI=> ?_)))))
 have hz14:=bi.size
 refine p (bD (U i) rfl) (e (bJ sT rfl rfl rfl rfl (cI) (by simp) fun wt16_5 bh cJ=> ?_))
 have aI:Wk w31 wt16_5:=(I.trans bi.md).trans' bh (fun q A h=>by omega)
 have bK:Wk wI wt16_5:=bi.md.trans' bh (fun q A h=>by omega)
 have hb14:ba wt16_5.heap bw [U ln,.slice a r.length c]:=cJ
 have hz16:=bh.size
 refine ak ((a0 _ _ (sq (fun _ av=>ae (fun _ cn=>(ag (U i) (ag (U n) (p (bu rfl rfl) ?_))))))))
 refine ak ((cn _ _ (cd rfl (fun dM=> ?_) (fun dM=> ?_))))
 refine ae (fun _ a1=>(p (fa nT rfl) (p (ld dN rfl ((hb14.aA 0).trans rfl)) (e (cl lh (ll (ln:Nat) 116 wt16_5) rfl fun eJ eP du=> ?_)))))
 obtain ⟨rfl,bc⟩:=du
 have hz75:=bc.size
 refine p au (e (bJ dO rfl rfl rfl rfl (Wk.B (aI.trans bc) hb5x) (by simp) fun eS c3 cK=>ak ((a1 _ _ (rt (tr (br (tr ?_))))))))
 refine tr (br (tr (et rfl dJ (dd (cs:= [.int .i64 2,U ln,.int .i64 116]) rfl fE rfl (fun j ab=>cK.bS j)) ?_)))
 rw [show n - i=0 by omega] at Y
 exact gD.no Y.more ((hE31x.trans (aI.trans bc)).trans' c3 (fun q A h=>by omega))
 refine aE (tn (av _ _ (ae (fun _ a1=>(ag (aW fb) (p (cR rJ rfl (rfl) (fun j ab=>(Wk.B bK bU).bS j)) (p (cR nf rfl (rfl) (fun j ab=>hb14.bS j)) (e (cl y4 (AP B fb mc F V ln r bt.heap.size a c wt16_5 (bL.wk (hE31x.trans aI)) ⟨seen,bG⟩ (bT.wk aI) hmr.2 hmr.1) rfl fun ed ee dv=> ?_)))))))))
 obtain ⟨c1,bf⟩:=dv
 obtain ⟨dp,ax,bx,rfl,b7,b1⟩:∃ (u:Tx) (a:Value) (e:Nat),ed= .tuple #[.agg [str u,a].toArray,U e]∧a.oneCell'=true∧((e=0∧∃ l,dU F r= .ok (u,l)∧World.ownsRow ee wt16_5.heap.size 71 1 a l.length (l.map aB))∨(e≠0∧dU F r= .error e)):=by
  rcases c1 with ⟨x,a,h1,h2,h3⟩ | ⟨e,h1,h2,h3⟩
  exact ⟨x.1,a,0,h2,dG h3,.inl ⟨rfl,x.2,h1,h3⟩⟩
  exact ⟨_,_,e,h3,rfl,.inr ⟨h2,h1⟩⟩
 have hz80:=bf.size
 refine p mv (p (xt rfl rfl) (p (xt rfl rfl) (e (fZ xn fun b15 w15 en aP bA=> ?_))))
 have hz15:=aP.size
 refine e (gn ja rfl rfl rfl (wv b7) bA (by decide) fun w19 aM cL=> ?_)
 have aq:Wk wI w19:=(bK.trans (bf.trans aP.md)).trans' aM (fun q A h=>by omega)
 have bX:w19.heap[b15]? =some (.cells [str dp,ax].toArray 56 (0,0)):=cL
 have hz19:=aM.size
 have dF:ba w19.heap bw [U ln,.slice a r.length c]:=aM.B (Wk.B (bf.trans aP.md) hb14) (fun h=>by omega)
 refine aj (((a1 _ _ (sq (fun _ co=>ae (fun _ cp=>(p mv (p (dt rfl rfl) ?_))))))))
 refine ak ((cp _ _ (cd rfl (fun dP=> ?_) (fun dP=> ?_))))
 obtain ⟨hne,hex⟩:=b1.resolve_left (fun h=>by omega)
 refine ae (fun _ a2=>(p (fa nT rfl) (p (ld dN rfl ((dF.aA 0).trans rfl)) (p mv (e (cl lh (ll (ln:Nat) (bx:Nat) w19) rfl fun eK eQ dw=> ?_))))))
 obtain ⟨rfl,bg⟩:=dw
 have hz88:=bg.size
 refine p au (e (bJ dO rfl rfl rfl rfl (Wk.B (I.trans (aq.trans bg)) hb5x) (by simp) fun eT c5 cM=>ak ((a2 _ _ (rt (tr (br (tr ?_))))))))
 exact tr (br (tr (et rfl dJ (dd (cs:= [.int .i64 2,U ln,U bx]) rfl fE rfl (fun j ab=>cM.bS j)) (gD.no (Y.bad (by omega) hex) ((hE31x.trans (I.trans (aq.trans bg))).trans' c5 (fun q A h=>by omega))))))
 obtain ⟨_,am,hex,dZ⟩:=b1.resolve_right (fun h=>by omega)
 have hW19:=ar.wk aq
 have dW:¬(ac.ownBlock=some C):=cG hW19.own hW19.cells (by decide)
 have dV:¬(ac.ownBlock=some b15):=fun h=>by have :=(c4 ar.own h).2; omega
 have hzw:=aq.size
 refine aE (tn (co _ _ (sq (fun _ a2=> ?_))))
 have ai:(fun w'=>Md (fun q=>ac.ownBlock=some q) w19 w') w19.drew:=(Md.refl _ _).drew
 refine dj (fun w'=>Md (fun q=>ac.ownBlock=some q) w19 w') 10 rfl wide ai (aQ 0 rfl (aW C) ai (aQ 1 rfl (aW C) ai (a7 2 rfl (fun _=>nc rfl) (fun _=>ai) (a7 3 rfl (fun _=>fa my rfl) (fun _=>ai) (cY 4 rfl (fun w' G=>ld ng rfl (Md.aA G ((aU hW19.cells).trans rfl) dW)) ai (cY 5 rfl (fun w' G=>cR g5 rfl (rfl) (fun j ab=>ba.bS ⟨_,Md.aw G bX dV⟩ j)) ai (fR 6 rfl (by kernel_rfl) (kG oA rfl rfl rfl fun ek w95 es de cV=> ?_))))))))
 have hE95:=e5 de.md
 have hW95:=hW19.wk hE95
 have hz95:=hE95.size
 have bQ:(fun w'=>Md (fun q=>ac.ownBlock=some q) w19 w') w95:=Md.mono hE95 (fun _ _ h=>h.elim)
 refine ⟨bQ,?_⟩
 refine fR 7 rfl (by kernel_rfl) (ap oA (hW95.own) rfl (by omega) rfl (ao.dz cV) (rfl) (wv b7) (by omega) (by omega) fun aD w96 b5 M hz96 ev=> ?_)
 obtain ⟨f,hf,dS⟩:=hW95.mp
 have hc96:=M.aw hW95.cells (cG hW95.own hW95.cells (by decide))
 have b6:World.ownsRow w96 wt13_4.heap.size 56 2 aD (xs++ [(dp,am)]).length (gL ((xs++ [(dp,am)]).zip (vs++ [ax]))):=by
  have hl:xs.length=vs.length:=by have :=hW95.fl.1; rw [List.length_map] at this; omega
  rw [List.zip_append hl,List.zip_cons_cons,List.zip_nil_right,A6,List.length_append]; exact b5
 have hz96:=M.size
 have hb12q:=M.B (Wk.B (aq.trans hE95) bU) (fun h=>by have :=(c4 hW95.own h).1; omega)
 have hb15q:=M.aw (Wk.aw hE95 bX) (fun h=>by have :=(c4 ar.own h).2; omega)
 have hE96:Wk w31 w96:=(I.trans (aq.trans hE95)).trans' M (fun q A h=>by have :=(c4 hW95.own h).1; omega)
 have bk:(fun w'=>Md (fun q=>ac.ownBlock=some q) w19 w') w96:=bQ.trans' M (fun _ _ h=>h)
 refine ⟨bk,?_⟩
 refine a7 8 rfl (fun _=>nc rfl) (fun _=>bk) (a7 9 rfl (fun _=>fa my rfl) (fun _=>bk) (bP 10 rfl (by kernel_rfl) (by kernel_rfl) (da AA rfl rfl (v:=aD) (dG b5) hc96 (by show _ < 2; omega) fun w10 Z cB=> ?_)))
 have hc10:w10.heap[C]? =some (.cells [aD,.map (some J)].toArray 108 (0,0)):=cB
 have hz10:=Z.size
 have cX:Wk w31 w10:=hE96.trans' Z (fun q A h=>by omega)
 have hb12r:=Z.B hb12q (fun h=>by omega)
 have hb15r:=Z.aw hb15q (fun h=>by omega)
 have ho10x:=bF b6 Z (fun q A h=>cG b6 hc96 (by decide) (h ▸ A))
 have dy:Tg w10 wt13_4.heap.size 71 am.length ax (am.map aB):=((((((Tg.gj dZ).mono (by omega)).wk aP.md).md aM (eE bA (by decide))).wk hE95).md M (fw hW95.own (by decide))).md Z (eE hc96 (by decide))
 have hfl10:=(((hW95.fl.md M (fw hW95.own (by decide))).md Z (eE hc96 (by decide))).snoc dy)
 have hf10:=(hf.md M (fun h=>kU hW95.own h (fun cur z=>hf.jQ))).md Z (fun h=>by omega)
 have hfm10:=(dS.md M (fw hW95.own (by decide))).md Z (eE hc96 (by decide))
 have bs:¬(((f (str dp)).getD (Value.slice none 0 0)).ownBlock=some C):=cG (hfm10.own dp) hc10 (by decide)
 have b3:¬(((f (str dp)).getD (Value.slice none 0 0)).ownBlock=some b15):=cG (hfm10.own dp) hb15r (by decide)
 have b4:¬(((f (str dp)).getD (Value.slice none 0 0)).ownBlock=some J):=fun h=>kU (hfm10.own dp) h (fun cur z=>hf10.jQ)
 refine di (by kernel_rfl) ?_
 refine tn (a2 _ _ ?_)
 have E:(fun w'=>Md (fun q=>((f (str dp)).getD (Value.slice none 0 0)).ownBlock=some q) w10 w') w10.drew:=(Md.refl _ _).drew
 refine dj (fun w'=>Md (fun q=>((f (str dp)).getD (Value.slice none 0 0)).ownBlock=some q) w10 w') 16 rfl wide E (lq 0 rfl (by kernel_rfl) (fun _ _=>az (aW C) rfl) E (lq 1 rfl (by kernel_rfl) (fun _ _=>nc rfl) E (lq 2 rfl (by kernel_rfl) (fun _ _=>fa tN rfl) E (lq 3 rfl (by kernel_rfl) (fun w' G=>ld rF rfl (Md.aA G ((aU hc10).trans rfl) bs)) E (lq 4 rfl (by kernel_rfl) (fun _ _=>fa lA rfl) E (lq 5 rfl (by kernel_rfl) (fun w' G=>ld bW rfl (Md.aA G ((aU hb15r).trans rfl) b3)) E (lq 6 rfl (by kernel_rfl) (fun _ _=>az (aW C) rfl) E ?_)))))))
 refine lq 7 rfl (by kernel_rfl) (fun _ _=>nc rfl) E (lq 8 rfl (by kernel_rfl) (fun _ _=>fa tN rfl) E (lq 9 rfl (by kernel_rfl) (fun w' G=>ld rF rfl (Md.aA G ((aU hc10).trans rfl) bs)) E (lq 10 rfl (by kernel_rfl) (fun _ _=>fa lA rfl) E (lq 11 rfl (by kernel_rfl) (fun w' G=>ld bW rfl (Md.aA G ((aU hb15r).trans rfl) b3)) E (lq 12 rfl (by kernel_rfl) (fun w' G=>jf wx Hm eu (bl.md (hf10) G b4) rfl rfl (⟨_,rfl⟩) (rfl)) E (lq 13 rfl (by kernel_rfl) (fun _ _=>az (U i) rfl) E (fR 14 rfl (by kernel_rfl) (gq oC rfl rfl fun ej w113 em dc cC=> ?_))))))))
 have hE113:=e5 dc.md
 have hfm113:=hfm10.md hE113 (fun _ hk=>hk.elim)
 have hz113:=hE113.size
 have bR:(fun w'=>Md (fun q=>((f (str dp)).getD (Value.slice none 0 0)).ownBlock=some q) w10 w') w113:=Md.mono hE113 (fun _ _ h=>h.elim)
 refine ⟨bR,?_⟩
 refine fR 15 rfl (by kernel_rfl) (ap oC (hfm113.own dp) rfl (by omega) rfl (ao.dz cC) (rfl) (rfl) (by have :=uo dp xs; omega) (by have :=uo dp xs; omega) fun ec w114 dY aa hz114 hf114=> ?_)
 have hz114:=aa.size
 have hf114:=(hf10.wk hE113).md aa b4
 have d0:World.ownsRow w114 wt13_4.heap.size 3 1 ec (idxs dp xs++ [xs.length]).length ((idxs dp xs++ [xs.length]).map m6):=by
  rw [List.length_append,List.map_append,hxl]; exact dY
 have dx:(fun w'=>Md (fun q=>((f (str dp)).getD (Value.slice none 0 0)).ownBlock=some q) w10 w') w114:=bR.trans' aa (fun _ _ h=>h)
 refine ⟨dx,?_⟩
 refine bP 16 rfl (by kernel_rfl) (by kernel_rfl) (lV wx eu (hf114) rfl rfl rfl (⟨_,rfl⟩) fun wm23_16 ah df=> ?_)
 have hput:=iS.put (x:=(dp,am)) hfm113 aa d0 (fun cur z=>hf114.jQ) ah
 have hc23:=ah.aw (aa.aw (Wk.aw hE113 hc10) bs) (fun h=>by omega)
 have ho114y:=bF (aJ ho10x hE113) aa (fun q A=>iJ (aJ ho10x hE113) (hfm113.own dp) (by decide) A)
 have ho23:=bF ho114y ah (fun q A h=>kU ho114y A (fun cur z=>h ▸ hf114.jQ))
 have hfl23:=((hfl10.wk hE113).md aa (fw (hfm113.own dp) (by decide))).md ah (fun k hk cur z h=>hf114.jQ (hk ▸ h))
 have dC:gY wm23_16 wt13_4.heap.size C J aD (vs++ [ax]) (xs++ [(dp,am)]):=⟨hc23,ho23,by rw [List.map_append]; exact hfl23,⟨_,df,hput⟩⟩
 have c0:Wk w31 wm23_16:=((cX.trans hE113).trans' aa (fun q A h=>by have :=(c4 (hfm113.own dp) h).1; omega)).trans' ah (fun q A h=>by omega)
 have hb12s:=ah.B (aa.B (Wk.B hE113 hb12r) (fun h=>by have :=(c4 (hfm113.own dp) h).1; omega)) (fun h=>by omega)
 have hz23:=ah.size
 refine di (by kernel_rfl) ?_
 exact bn (tn (aZ _ _ (rg rfl (p (ad rfl rfl (bC (by omega))) (p mv (ak ((⟨_,by omega,i+1,xs++ [(dp,am)],vs++ [ax],aD,(by omega),((by rw [List.length_append,hxl]; rfl)),((by rw [show n - (i+1)=n - i - 1 by omega]; exact Y.step (by omega) hex)),dC,c0,hb12s,((by omega)),rfl,rfl,rfl,(by first | rfl | (rw [← hn0]; rfl)),rfl,rfl,(by first | rfl | (rw [hrw]; rfl)),(by first | rfl | (rw [hrw]; rfl)),rfl,rfl⟩))))))))
 refine ext (te _ (te _ (be (tn (ch _ _ (sq (fun _ aZ=>sq (fun _ a0=> ?_))))))))
 obtain ⟨ei,cv,rfl⟩:=cH ar.own
 refine rg rfl (ag (aW C) (p (nc rfl) (p (fa my rfl) (p (ld ng rfl ((aU ar.cells).trans rfl)) (p (bp kn rfl rfl) (ag (U n) (p (lt rfl rfl) ?_)))))))
 refine ak ((a0 _ _ (cd rfl (fun dK=> ?_) (fun dK=> ?_))))
 refine ae (fun _ av=>(ag (.slice b9 (aC t).length jF) (p (bp ea rfl rfl) (p (bd (((aC t).length+1:Nat):Int) rfl rfl (aO (by omega) (by omega))) (e (cl lh (ll ((aC t).length+1:Nat) 116 wI) rfl fun ez eM dg=> ?_))))))
 obtain ⟨rfl,a6⟩:=dg
 have hz126:=a6.size
 refine p au (e (bJ dO rfl rfl rfl rfl (Wk.B (I.trans a6) hb5x) (by simp) fun eU c7 cN=>ak ((av _ _ (rt (tr (et rfl dJ (dd (cs:= [.int .i64 2,U ((aC t).length+1),.int .i64 116]) rfl fE rfl (fun j ab=>cN.bS j)) ?_)))))))
 rw [List.drop_eq_nil_of_le (by omega)] at Y
 exact gD.no (Y.ends (by omega)) ((hE31x.trans (I.trans a6)).trans' c7 (fun q A h=>by omega))
 refine aE (tn (aZ _ _ (ae (fun _ av=>(ag (aW C) (p (cz (ps:= []) (L:= [.int .i64 0,.int .i64 0,.int .i64 0]) lQ rfl (rfl)) (p (bD (aW C) rfl) (e (bJ dO rfl rfl rfl rfl (Wk.B I hb5x) (by simp) fun eV bM cO=> ?_)))))))))
 refine ak ((av _ _ (rt (et rfl dJ (dd (cs:= [.int .i64 0,.int .i64 0,.int .i64 0]) rfl fE rfl (fun j ab=>cO.bS j)) ?_))))
 rw [List.drop_eq_nil_of_le (by omega),show n - i=0 by omega] at Y
 have hX:=Y.done
 have dA:TF wI [27] (fun q=>q=a5):=TF.eq (c6 (Wk.aw (hE22.trans (hE31.trans I)) bE)) (by decide)
 unfold gD
 rw [hX]
 exact ⟨⟨wt13_4.heap.size,C,J,_,vs,by omega,rfl,ar.md bM dA (by decide) (fun h=>by omega),by omega,by omega⟩,(hE31x.trans I).trans' bM (fun q A h=>by omega)⟩
end Go.Hb.ks
end
section
set_option maxRecDepth 20000
set_option maxHeartbeats 1000000
namespace Go.Hb.l7
open Go.Hb.cU
open Go.Proofs
open Go.Hb.eK Go.Hb.fg Go.Hb.fz Go.Hb.ju Go.Hb.gX Go.Hb.fJ Go.Hb.jx Go.Hb.jZ Go.Hb.ks
theorem G9 {α:Type} {f:α×Value→List Value} {m c i:Nat} (hf:∀ q,(f q).length=m) (hc:c < m) (hs:∀ a u v,(f (a,u)).set c v=f (a,v)) {rs:List α} {vs:List Value} {v:Value} (hi:i < rs.length) (hv:i < vs.length):((rs.zip vs).flatMap f).set (i*m+c) v=(rs.zip (vs.set i v)).flatMap f:=by
 obtain ⟨r,hr⟩:∃ r,rs[i]? =some r:=⟨_,List.getElem?_eq_getElem hi⟩
 obtain ⟨u,hu⟩:∃ u,vs[i]? =some u:=⟨_,List.getElem?_eq_getElem hv⟩
 have hz:(rs.zip vs)[i]? =some (r,u):=List.getElem?_zip_eq_some.2 ⟨hr,hu⟩
 have hz2:rs.zip (vs.set i v)=(rs.zip vs).set i (r,v):=by
  apply List.ext_getElem?
  intro j
  rw [List.getElem?_set]
  by_cases p:i=j
  · subst p
    rw [if_pos rfl,if_pos (List.getElem?_eq_some_iff.1 hz).1]
    exact List.getElem?_zip_eq_some.2 ⟨hr,by simp [hv]⟩
  · rw [if_neg p]
    cases h1:(rs.zip vs)[j]? with
    | none=>
      rw [List.getElem?_eq_none_iff,List.length_zip] at h1 ⊢
      rw [List.length_set]; exact h1
    | some q=>
      have h2:=List.getElem?_zip_eq_some.1 h1
      exact List.getElem?_zip_eq_some.2 ⟨h2.1,by rw [List.getElem?_set,if_neg p]; exact h2.2⟩
 have hl:(rs.zip vs).length=min rs.length vs.length:=List.length_zip
 have hcl:((rs.zip vs).flatMap f).length=(rs.zip vs).length*m:=ka hf _
 have hle:i*m+m≤(rs.zip vs).length*m:=by rw [← Nat.succ_mul]; exact Nat.mul_le_mul_right _ (by omega)
 rw [hz2,tK hf _ (by omega)]
 apply List.ext_getElem?
 intro j
 have hg:=fun c hc=>p4 hf (c:=c) hz hc
 have htl:(((rs.zip vs).flatMap f).take (i*m)).length=i*m:=by rw [List.length_take,hcl]; omega
 rw [List.getElem?_set]
 by_cases h1:j < i*m
 · rw [if_neg (by omega),List.append_assoc,List.getElem?_append_left (by omega),List.getElem?_take,if_pos h1]
 · rw [List.append_assoc,List.getElem?_append_right (by omega),htl]
   by_cases h2:j < i*m+m
   · rw [List.getElem?_append_left (by rw [hf]; omega)]
     obtain ⟨d,rfl⟩:∃ d,j=i*m+d:=⟨j - i*m,by omega⟩
     rw [hg d (by omega),show i*m+d - i*m=d by omega,← hs r u v,List.getElem?_set]
     by_cases h3:c=d
     · subst h3; rw [if_pos rfl,if_pos rfl,if_pos (by rw [hcl]; omega),if_pos (by rw [hf]; exact hc)]
     · rw [if_neg (by omega),if_neg h3]
   · rw [if_neg (by omega),List.getElem?_append_right (by rw [hf]; omega),hf,List.getElem?_drop]
     congr 1; omega
theorem Be {xs:List bV} {vs:List Value} {i:Nat} {v:Value} (hi:i < xs.length) (hv:i < vs.length):(gL (xs.zip vs)).set (i*2 +1) v=gL (xs.zip (vs.set i v)):=G9 (f:=hU) (m:=2) (c:=1) (fun _=>rfl) (by decide) (fun _ _ _=>rfl) hi hv
theorem j8 {l:List (bV×Value)} {i:Nat} {q:bV×Value} (h:l[i]? =some q):gL l≠[]:=fun h2=>by
 have h3:=A7 l
 have h4:=(List.getElem?_eq_some_iff.1 h).1
 rw [h2] at h3
 have h5:0=l.length*2:=h3
 omega
theorem Bc {w:World} {B e:Nat} {xs:List bV} {vs:List Value} {ls:List (List Nat)} (h:bN w B e vs ls):(gL (xs.zip vs)).all Value.oneCell'=true :=by
 rw [List.all_eq_true]
 intro v hv
 obtain ⟨q,a,hv⟩:=List.mem_flatMap.1 hv
 have h1:=List.all_eq_true.1 (o5 h) q.2 (List.of_mem_zip a).2
 simp only [hU,List.mem_cons,List.not_mem_nil,or_false] at hv
 rcases hv with rfl | rfl
 · rfl
 · exact h1
def jv (w:World) (B:Nat) (vs:List Value) (ls:List (List Nat)):Prop :=vs.length=ls.length∧∀ (i:Nat) v l,vs[i]? =some v→ls[i]? =some l→World.ownsRow w B 71 1 v l.length (l.map aB)
theorem jv.t {w:World} {B:Nat} {vs:List Value} {ls:List (List Nat)} (h:jv w B vs ls):bN w B 71 vs ls:=⟨h.1,fun i v l h1 h2=>Tg.gj (h.2 i v l h1 h2)⟩
theorem rP {G:Nat→Prop} {w w':World} {B:Nat} {vs:List Value} {ls:List (List Nat)} (h:jv w B vs ls) (hm:Md G w w') (a:∀ k,G k→∀ cur z,w.heap[k]?≠some (.cells cur 71 z)):jv w' B vs ls:=⟨h.1,fun i v l h1 h2=>bF (h.2 i v l h1 h2) hm (fun k hk hg=>kU (h.2 i v l h1 h2) hk (a k hg))⟩
theorem xT (w:World) (B:Nat):jv w B [] []:=⟨rfl,fun i v l hv=>by simp at hv⟩
theorem xS {w:World} {B i:Nat} {vs:List Value} {ls:List (List Nat)} {v:Value} (h:jv w B (vs.take i) (ls.take i)) (hi:i < ls.length) (hv:i < vs.length) (p:World.ownsRow w B 71 1 v (ls.getD i []).length ((ls.getD i []).map aB)):jv w B ((vs.set i v).take (i+1)) (ls.take (i+1)):=by
 refine ⟨by simp; have :=h.1; simp at this; omega,fun j u l h1 h2=> ?_⟩
 rw [List.getElem?_take] at h1 h2
 by_cases a:j < i+1
 · rw [if_pos a] at h1 h2
   rw [List.getElem?_set] at h1
   by_cases c:i=j
   · subst c
     rw [if_pos rfl,if_pos hv] at h1
     cases h1
     rw [show ls.getD i []=l by rw [List.getD_eq_getElem?_getD,h2]; rfl] at p
     exact p
   · rw [if_neg c] at h1
     exact h.2 j u l (by rw [List.getElem?_take,if_pos (by omega)]; exact h1) (by rw [List.getElem?_take,if_pos (by omega)]; exact h2)
 · rw [if_neg a] at h1; cases h1
theorem nL (w:World):
 aT Tryz.prog 17 (List.toArray [.pointer none]) w (fun v w'=>v=U 0∧Wk w w'):=by
 refine enter Tryz.func17 rfl Tryz.ntmps17 rfl ?_
 refine ae (fun _ a=>(aj (((a _ _ (sq (fun _ j=>ae (fun _ c=> ?_))))))))
 refine ag (.pointer none) (p (e8 iN rfl rfl) (ak ((c _ _ (ct (rfl) (ae (fun _ i=>(p au ?_))))))))
 exact ak ((i _ _ (rt (tr (f1 rfl rfl (⟨rfl,Md.refl _ _⟩))))))
theorem pO (B i E:Nat) (G:Value) (vs:List Value) (xs:List bV) (w:World) (j:gY w B i E G vs xs) (I:xs.length≤70000):
 aT Tryz.prog 17 (List.toArray [aW i]) w (fun v w'=>v=U (xs.length)∧Wk w w'):=by
 obtain ⟨a,c,rfl⟩:=cH j.own
 refine enter Tryz.func17 rfl Tryz.ntmps17 rfl ?_
 refine ae (fun _ q=>(aj (((q _ _ (sq (fun _ s=>ae (fun _ A=> ?_))))))))
 refine ag (aW i) (p (e8 iN rfl rfl) (ak ((A _ _ (cf (rfl) (aE (tn (s _ _ (sq (fun _ C=> ?_))))))))))
 refine rg rfl (ag (aW i) (p (nc rfl) (p (fa my rfl) (p (ld ng rfl ((aU j.cells).trans rfl)) (p (bp kn rfl rfl) (p au (nl ?_)))))))
 exact tn (C _ _ (rt (f1 rfl rfl (⟨rfl,Md.refl _ _⟩))))
theorem nJ (w:World):
 aT Tryz.prog 16 (List.toArray [.pointer none]) w (fun v w'=>v= .slice none 0 0∧Wk w w'):=by
 refine enter Tryz.func16 rfl Tryz.ntmps16 rfl ?_
 refine ae (fun _ a=>(aj (((a _ _ (sq (fun _ j=>ae (fun _ c=> ?_))))))))
 refine ag (.pointer none) (p (e8 iN rfl rfl) (ak ((c _ _ (ct (rfl) (ae (fun _ i=>(p au ?_))))))))
 exact ak ((i _ _ (rt (tr (f1 rfl rfl (⟨rfl,Md.refl _ _⟩))))))
theorem pL (B E aM:Nat) (ah:Value) (vs:List Value) (xs:List bV) (w:World) (A:gY w B E aM ah vs xs) (aO:xs.length≤70000) (hl:∀ x∈xs,x.2.length≤64):
 aT Tryz.prog 16 (List.toArray [aW E]) w (fun v w'=>(∃ vs,World.ownsRow w' w.heap.size 56 2 v xs.length (gL (xs.zip vs))∧bN w' w.heap.size 71 vs (xs.map (·.2))∧jv w' w.heap.size vs (xs.map (·.2)))∧Wk w w'):=by
 refine enter Tryz.func16 rfl Tryz.ntmps16 rfl ?_
 refine ae (fun _ ai=>(aj (((ai _ _ (sq (fun _ am=>ae (fun _ an=> ?_))))))))
 refine ag (aW E) (p (e8 iN rfl rfl) (ak ((an _ _ (cf (rfl) (aE (tn (am _ _ (sq (fun _ ap=> ?_))))))))))
 refine rg rfl (ag (aW E) (p (nc rfl) (p (fa my rfl) (p (ld ng rfl ((aU A.cells).trans rfl)) (e (cl y6 (zO ah xs.length (gL (xs.zip vs)) w (Rd.gj A.own) (Bc A.fl) (by omega)) rfl fun v11 w11 hR11=> ?_))))))
 obtain ⟨ho11,ax⟩:=hR11
 obtain ⟨s,fj,rfl⟩:=cH ho11
 have hsl:vs.length=xs.length:=by have :=A.fl.1; rwa [List.length_map] at this
 refine aj (((ap _ _ (sq (fun _ aq=>ae (fun _ ar=>(p mv (p (bp kn rfl rfl) ?_))))))))
 refine p mv (ak ((ar _ _ (aw (lp (fun aa G wI=> ∃ (i:Nat) (sa:List Value),(i≤xs.length)∧(sa.length=xs.length)∧(sa.drop i=vs.drop i)∧(jv wI w.heap.size (sa.take i) ((xs.map (·.2)).take i))∧(World.ownsRow wI w.heap.size 56 2 (.slice s xs.length fj) xs.length (gL (xs.zip sa)))∧(Wk w wI)∧(G 3= .slice s xs.length fj)∧(G 13=U (xs.length))∧(G 14=U i)∧(xs.length - i=aa)) _ ⟨0,vs,(by omega),hsl,rfl,(xT _ _),ho11,ax,rfl,rfl,rfl,rfl⟩ ?_)))))
 rintro aa G wI ⟨i,sa,hi,aH,ac,hal,c,C,aF,aC,aD,rfl⟩
 refine fx 3 aF (fx 13 aC (fx 14 aD (ae (fun _ au=>(p (lt rfl rfl) (ak ((au _ _ (sq (fun _ av=>cd rfl (fun az=> ?_) (fun az=> ?_)))))))))))
 refine aE (tn (av _ _ (sq (fun _ I=>aw (sq (fun _ al=> ?_))))))
 obtain ⟨aP,aI,M⟩:=bN.get (A.wk C).fl (show i < (xs.map (·.2)).length by rw [List.length_map]; omega)
 obtain ⟨Z,ci,rfl⟩:=M.slice
 obtain ⟨x,Y⟩:∃ x,xs[i]? =some x:=⟨_,List.getElem?_eq_getElem (by omega)⟩
 have aL:(xs.map (·.2)).getD i []=x.2:=by rw [List.getD_eq_getElem?_getD,List.getElem?_map,Y]; rfl
 have hxl:=hl x (List.mem_of_getElem? Y)
 rw [← aL] at hxl
 have V:(xs.zip sa)[i]? =some (x,.slice Z ((xs.map (·.2)).getD i []).length ci):=List.getElem?_zip_eq_some.2 ⟨Y,(pQ ac).trans aI⟩
 refine rg rfl (ag (U i) (p (bD (U i) rfl) (ak ((al _ _ (rg rfl (ag (.slice s xs.length fj) (ag (U i) ?_))))))))
 refine ag (.slice s xs.length fj) (ag (U i) (p (aK j9 rfl rfl (by omega) (ao.ok ((aG c).2) (j8 V))) (p (fa jL rfl) (p (ld g4 rfl (hZ (f:=hU) (m:=2) (fun _=>rfl) (aG c).2 V 1 (by decide))) (e (cl ny (nB Z ((xs.map (·.2)).getD i []).length ci (((xs.map (·.2)).getD i []).map aB) wI M.bK.2 (by simp) (fun h=>Tg.oa M (by simp) h) (nm _) (by omega)) rfl fun aN aQ ay=> ?_))))))
 obtain ⟨O,a⟩:=ay
 have hz24:=a.size
 refine p (aK j9 rfl rfl (by omega) (ao.ok ((aG (aJ c a)).2) (j8 V))) (p (fa jL rfl) (e (lR (j:=i*2 +1) (aJ c a) nH rfl rfl (dG O) (by rw [Int.toNat_natCast]; omega) (by omega) fun w7 J ab=> ?_)))
 rw [Be (by omega) (by omega)] at ab
 have hE7:Wk w w7:=Wk.own (C.trans a) (aJ c a) J (by omega)
 have ho24x:=bF (gk O (show w.heap.size≤wI.heap.size from C.size)) J (fun q aA=>iJ O (aJ c a) (by decide) aA)
 have hal7:=rP (rP hal a (fun _ hk=>hk.elim)) J (fw (aJ c a) (by decide))
 refine nl (bn (tn (I _ _ (rg rfl (p (ad rfl rfl (bC (by omega))) (p mv (nl (tn ?_))))))))
 exact ⟨_,by omega,i+1,sa.set i aN,(by omega),((by rw [List.length_set]; exact aH)),(jx.set_drop ac),(xS hal7 (by rw [List.length_map]; omega) (by omega) ho24x),ab,hE7,rfl,rfl,rfl,rfl⟩
 refine ext (te _ (te _ (be (tn (aq _ _ (ae (fun _ I=>(ag (.slice s xs.length fj) ?_))))))))
 refine p (bD (.slice s xs.length fj) rfl) (ak ((I _ _ (rt (f1 rfl rfl ?_)))))
 rw [List.take_of_length_le (by omega),List.take_of_length_le (by rw [List.length_map]; omega)] at hal
 exact ⟨⟨sa,c,hal.t,hal⟩,C⟩
end Go.Hb.l7
end
section
set_option maxRecDepth 20000
set_option maxHeartbeats 1000000
namespace Go.Hb.oY
open Go.Proofs
open Go.Hb.eK Go.Hb.fg Go.Hb.jt Go.Hb.fz Go.Hb.iP Go.Hb.kq Go.Hb.l2
structure xx where
 rb:Nat
 fb:Nat
 eof:Nat
 vr:Value
 vs:List (Nat×Value)
 rows:List Rw
section
variable {w w':World} {B k ln:Nat} {H:xx} {seen:List Tx} {vh:Value}
end
end Go.Hb.oY
end
section
set_option maxRecDepth 20000
set_option maxHeartbeats 1000000
namespace Go.Hb.oZ
open Go.Hb.cU
open Go.Proofs
open Go.Hb.fY
theorem FA (s:List UInt8) (w:World) (hs:s.length≤1048576):
 aT Tryz.prog 40 (List.toArray [str s]) w (fun v w'=>World.ownsRow w' w.heap.size 9 1 (v) ((aC s)).length (((aC s)).map str)∧Wk w w'):=by
 refine enter Tryz.func40 rfl Tryz.ntmps40 rfl ?_
 refine ae (fun _ aH=>(aj (((aH _ _ ?_)))))
 refine cQ (fun aF aD=>(Wk w aD)∧(aF 0=str (fI s))) ?_ ?_
 refine ae (fun _ Z=>(ag (str s) (e (cl nw (n7 s _) rfl fun bw w8 hR8=> ?_))))
 obtain ⟨rfl,ay⟩:=hR8
 refine ak ((Z _ _ (cb rfl (fun hc8=> ?_) (fun hc8=> ?_))))
 have hml:=DS hc8
 exact rg rfl (ag (str s) (p (jS u9 rfl rfl (by omega)) (aj (((⟨ay,by show str (s.drop 3)=_; rw [GM hc8]⟩))))))
 exact aE (tn (⟨ay,by show str s=_; rw [wV hc8]⟩))
 rintro aF aD ⟨av,a7⟩
 refine fx 0 a7 ?_
 have htl:=mX s
 refine ae (fun _ Z=>(aj (((Z _ _ (ae (fun _ aI=>(e (j7 iL fun an w11 hb11 aZ aP=> ?_)))))))))
 have a5:World.ownsRow w11 w.heap.size 5 1 (.slice (some ⟨an,0,none⟩) 0 0) (([]:List UInt8)).length (U8 (([]:List UInt8))):=aP _ (by have :=av.size; omega)
 have aV:Wk w w11:=Md.trans av aZ.md
 refine aj (((aI _ _ (ae (fun _ aK=>(aj (((aK _ _ ?_)))))))))
 refine sq (fun _ aL=>ae (fun _ aM=>(aj (((aM _ _ (aw (lp (fun ar A wI=> ∃ (i:Nat) (dn:List (List UInt8)) (a:List UInt8) (ob:Bool) (j O:Value),(i≤(fI s).length)∧(dn++b8 a ((fI s).drop i)=aC s)∧(ob=decide (a≠[]))∧(a.length≤i)∧(Wk w wI)∧(World.ownsRow wI w.heap.size 9 1 (j) (dn).length ((dn).map str))∧(World.ownsRow wI w.heap.size 5 1 (O) (a).length (U8 (a)))∧(A 0=str (fI s))∧(A 3=j)∧(A 4=O)∧(A 5= .bool ob)∧(A 6= .int .i64 i)∧((fI s).length - i=ar)) _ ⟨0,[],[],false,.slice none 0 0,.slice (some ⟨an,0,none⟩) 0 0,(by omega),rfl,rfl,((by simp)),aV,(World.ownsRow_nil _ _ _ _),a5,rfl,rfl,rfl,rfl,rfl,rfl⟩ ?_))))))))
 rintro ar A wI ⟨i,dn,a,ob,j,O,hi,hd,aB,hcl,J,q,c,a8,a9,ba,bb,bc,rfl⟩
 refine fx 0 a8 (fx 3 a9 (fx 4 ba (fx 5 bb (fx 6 bc ?_))))
 have bo:dn.length≤s.length+1:=by have h1:=congrArg List.length hd; have h2:=ib s; rw [List.length_append] at h1; omega
 have hsz:=J.size
 refine sq (fun _ aN=>ae (fun _ aO=>(ag (.int .i64 i) (ag (str (fI s)) (p (bY u9 rfl rfl) (p (lt rfl rfl) (nl ?_)))))))
 refine tn (aO _ _ (cd rfl (fun a2=> ?_) (fun a2=> ?_)))
 refine aE (tn (aN _ _ (sq (fun _ E=>aw (sq (fun _ U=>ae (fun _ C=>(ag (str (fI s)) ?_))))))))
 refine ag (.int .i64 i) (p (fF u9 rfl rfl (by omega)) (p (dt rfl rfl) (ak ((C _ _ (cd rfl (fun ai=> ?_) (fun ai=> ?_)))))))
 refine ae (fun _ V=>(ag (O) (ag (str (fI s)) (ag (.int .i64 i) (p (fF u9 rfl rfl (by omega)) (e (gq iL rfl rfl fun bg w26 bj M aQ=> ?_)))))))
 have hE26:Wk w w26:=Md.trans J M.md
 refine e (ap iL (aJ c M.md) rfl (by have :=hE26.size; omega) rfl (ao.dz aQ) (rfl) (rfl) (by omega) (by omega) fun bd bx a3 az hz27 bp=> ?_)
 have hE27:=Wk.own hE26 (aJ c M.md) az (Nat.le_refl _)
 have ho27x:=vp a3
 have hod27:=bF (aJ q M.md) az (fun k hk=>iJ q c (by decide) hk)
 refine aj (((V _ _ (ae (fun _ Y=>(aj (((Y _ _ ?_)))))))))
 refine ext (te _ (be (tn (E _ _ (rg rfl (ag (.int .i64 i) (p (ad rfl rfl (bC (by omega))) (p au ?_))))))))
 exact ak ((⟨_,by omega,i+1,dn,a++ [(fI s).getD i 0],true,j,bd,(by omega),((by rw [drop_cons 0 (by omega),n4 (El ai)] at hd; exact hd)),((by simp)),((by rw [List.length_append,List.length_singleton]; omega)),hE27,hod27,ho27x,rfl,rfl,rfl,rfl,rfl,rfl⟩))
 have hb10:=C5 (Decidable.of_not_not ai)
 obtain ⟨G,I,rfl⟩:=cH c
 refine aE (tn (U _ _ (ae (fun _ V=>(ag (j) (ag (.slice G a.length I) (e (cl sH (th a G I _ (aG c).2 (by omega) (aG c).1) rfl fun v30 w30 a0=> ?_))))))))
 obtain ⟨rfl,aa⟩:=a0
 refine e (gq cw rfl rfl fun bh w31 bk ac aR=> ?_)
 have hE31:Wk w w31:=Md.trans (Md.trans J aa) ac.md
 refine e (ap cw (aJ (aJ q aa) ac.md) rfl (by have :=hE31.size; omega) rfl (ao.dz aR) (rfl) (rfl) (by omega) (by omega) fun bf bz a4 aX bs bq=> ?_)
 have hE32:=Wk.own hE31 (aJ (aJ q aa) ac.md) aX (Nat.le_refl _)
 have ho32x:=mM a4
 refine aj (((V _ _ (ae (fun _ Y=>(e (j7 iL fun aq w33 bl aA aS=> ?_)))))))
 have aW:Wk w w33:=Md.trans hE32 aA.md
 have a6:World.ownsRow w33 w.heap.size 5 1 (.slice (some ⟨aq,0,none⟩) 0 0) (([]:List UInt8)).length (U8 (([]:List UInt8))):=aS _ (by have :=hE32.size; omega)
 refine aj (((Y _ _ (rg rfl (p au (nl (bn (tn (E _ _ ?_)))))))))
 exact rg rfl (ag (.int .i64 i) (p (ad rfl rfl (bC (by omega))) (aj (((⟨_,by omega,i+1,dn++ [ed a],[],false,bf,.slice (some ⟨aq,0,none⟩) 0 0,(by omega),((by rw [drop_cons 0 (by omega),hb10,qz] at hd; rw [List.append_assoc]; exact hd)),rfl,((by simp)),aW,(aJ ho32x aA.md),a6,rfl,rfl,rfl,rfl,rfl,rfl⟩))))))
 refine ext (te _ (te _ (be (tn (aL _ _ (sq (fun _ E=>ae (fun _ U=> ?_))))))))
 refine ag (.bool ob) (ak ((U _ _ (cb rfl (fun al=> ?_) (fun al=> ?_)))))
 have hne:a≠[]:=by have :=aB.symm.trans al; exact of_decide_eq_true this
 obtain ⟨G,I,rfl⟩:=cH c
 refine rg rfl (ag (j) (ag (.slice G a.length I) (e (cl sH (th a G I _ (aG c).2 (by omega) (aG c).1) rfl fun bu w37 a1=> ?_))))
 obtain ⟨rfl,ab⟩:=a1
 refine e (gq cw rfl rfl fun bi w38 bm ah aU=> ?_)
 have ax:Wk w w38:=Md.trans (Md.trans J ab) ah.md
 refine e (ap cw (aJ (aJ q ab) ah.md) rfl (by have :=ax.size; omega) rfl (ao.dz aU) (rfl) (rfl) (by omega) (by omega) fun bv w39 ho39 aY bt br=> ?_)
 have hE39:=Wk.own ax (aJ (aJ q ab) ah.md) aY (Nat.le_refl _)
 have ho39x:=mM ho39
 refine aj (((E _ _ (ae (fun _ C=>(p mv (p au (nl ?_))))))))
 refine tn (C _ _ (rt (f1 rfl rfl ?_)))
 have am:dn++ [ed a]=aC s:=by rw [← hd,show List.drop i (fI s)= [] from List.drop_eq_nil_of_le (by omega),uP hne]
 exact ⟨by rw [← am]; exact ho39x,hE39⟩
 have hne:a= []:=Decidable.of_not_not (of_decide_eq_false (aB.symm.trans al))
 refine aE (tn (E _ _ (ae (fun _ C=>(ag (j) (p (bD (j) rfl) (ak ((C _ _ ?_)))))))))
 refine rt (f1 rfl rfl ?_)
 have am:dn=aC s:=by rw [← hd,show List.drop i (fI s)= [] from List.drop_eq_nil_of_le (by omega),hne,n5,List.append_nil]
 exact ⟨by rw [← am]; exact q,J⟩
theorem lN (s:List UInt8) (w:World) (hs:s.length≤1048576):
 aT Tryz.prog 22 (List.toArray [str s]) w (fun v w'=>(∃ a,v= .tuple #[a,.int .i64 (if 65536 < s.length then 10 else 0)]∧(if 65536 < s.length then a= .slice none 0 0 else World.ownsRow w' w.heap.size 9 1 (a) ((aC s)).length (((aC s)).map str)))∧Wk w w'):=by
 refine enter Tryz.func22 rfl Tryz.ntmps22 rfl ?_
 refine ae (fun _ j=>(p au (aj (((j _ _ (sq (fun _ q=>sq (fun _ A=> ?_)))))))))
 refine rg rfl (ag (str s) (p (bY u9 rfl rfl) (p (gt rfl rfl) (ak ((A _ _ (cd rfl (fun E=> ?_) (fun E=> ?_))))))))
 refine ae (fun _ c=>(p au (aj (((c _ _ (rt (tr ?_))))))))
 refine f2 rfl rfl rfl ?_
 have hl:65536 < s.length:=by omega
 exact ⟨⟨.slice none 0 0,by show Value.tuple #[.slice none 0 0,.int .i64 10]=_; rw [if_pos hl],by rw [if_pos hl]⟩,Md.refl _ _⟩
 refine aE (tn (q _ _ (ae (fun _ c=>(ag (str s) (e (cl y5 (FA s _ hs) rfl fun i w8 hR8=> ?_)))))))
 obtain ⟨G,C⟩:=hR8
 refine p au (aj (((c _ _ (rt (f2 rfl rfl rfl ?_))))))
 have hl:¬65536 < s.length:=by omega
 exact ⟨⟨i,by show Value.tuple #[i,.int .i64 0]=_; rw [if_neg hl],by rw [if_neg hl]; exact G⟩,C⟩
end Go.Hb.oZ
end
section
set_option maxRecDepth 20000
set_option maxHeartbeats 1000000
namespace Go.Hb.l6
open Go.Proofs
open Go.Hb.fz Go.Hb.iP Go.Hb.gX Go.Hb.jX
def Ny (F:aH):Prop := ∀ l∈F.aliases,∀ x∈l,x < 65536
theorem tX {kind:Nat} {s:Tx} {l:List Nat} (h:h8 kind s= .ok l):∀ x∈l,x < 65536:=by
 unfold h8 at h
 split at h
 · cases h
 · cases h
   intro x a
   unfold dx at a
   repeat' split at a
   all_goals first
    | (cases a; done)
    | (rw [vf] at a
       obtain ⟨y,_,rfl⟩:=List.mem_map.1 a
       exact BR _ _)
theorem xN {kind ln:Nat} {row:List Tx} {l:List Nat} (h:iu kind ln row= .ok l):∀ x∈l,x < 65536:=by
 unfold iu at h
 split at h
 · cases h
 · exact tX h
theorem BY {kind:Nat} {al:List (List Nat)} {s:Tx} {l:List Nat} (hal:∀ l∈al,∀ x∈l,x < 65536) (h:dV kind al s= .ok l):∀ x∈l,x < 65536:=by
 unfold dV at h
 split at h
 · exact tX h
 · split at h
   · cases h
   · split at h
     · cases h
     · cases h
       rename_i n _ _
       rw [List.getD_eq_getElem?_getD]
       cases hg:al[n - 1]? with
       | none=>simp
       | some y=>exact hal y (List.mem_of_getElem? hg)
theorem CK {eof ln:Nat} {F F':aH} {hs:List Tx} {rows rows':List Rw} {row:List Tx} (h:Ny F) (a:bm eof F hs rows ln row= .ok (F',rows')):Ny F':=by
 unfold bm at a
 repeat' split at a
 · unfold fU at a; repeat' split at a
   all_goals first | (cases a; done) | (cases a; exact h)
 · unfold gy at a; repeat' split at a
   all_goals first | (cases a; done) | (cases a; exact h)
 · unfold jk at a; repeat' split at a
   all_goals first | (cases a; done) | (cases a; exact h)
 · unfold jl at a; repeat' split at a
   all_goals first | (cases a; done) | (cases a; exact h)
 · unfold gA at a; repeat' split at a
   all_goals first | (cases a; done) | (cases a; exact h)
 · unfold gB at a; repeat' split at a
   all_goals first | (cases a; done) | (cases a; exact h)
 · unfold ga at a
   split at a
   · cases a
   · split at a
     · cases a
     · split at a
       · cases a
       · rename_i r hg
         cases a
         intro l hl
         rcases List.mem_append.1 hl with hl | hl
         · exact h l hl
         · obtain ⟨_,_,h2⟩:=qg _ _ _ hg l hl
           exact xN h2
 · unfold eQ at a; repeat' split at a
   all_goals first | (cases a; done) | (cases a; exact h)
theorem E6 {eof:Nat} :∀ (k:Nat) (F F':aH) (hs:List Tx) (rows:List Rw),Ny F→ew eof k F hs rows= .ok F'→Ny F':=by
 intro k
 induction k with
 | zero=>intro F F' hs rows h a; rw [ew] at a; split at a <;> cases a; exact h
 | succ k ih=>
   intro F F' hs rows h a
   cases rows with
   | nil=>rw [qT] at a; cases a; exact h
   | cons q rows=>
     rw [ew] at a
     split at a
     · cases a
     · split at a
       · cases a
       · split at a
         · cases a
         · split at a
           · cases a
           · rename_i r hr
             exact ih _ _ _ _ (CK (rows':=r.2) h hr) a
theorem xI {s:Tx} {F:aH} (h:eo s= .ok F):Ny F:=by
 unfold eo at h
 split at h
 · cases h
 · split at h
   · cases h
   · rename_i f hf
     split at h
     · cases h
     · cases h
       exact E6 _ _ _ _ _ (fun l hl=>by cases hl) hf
def m5 (x:bV):Prop :=x.1.length≤64∧x.2.length≤64∧(∀ y∈x.2,y < 65536)
theorem pT {F:aH} {row:List Tx} {x:bV} (h1:Nx F) (h2:Ny F) (h:dU F row= .ok x):m5 x:=by
 unfold dU at h
 split at h
 · cases h
 · split at h
   · cases h
   · split at h
     · cases h
     · split at h
       · cases h
       · split at h
         · cases h; exact ⟨by simp only; omega,by simp,fun y hy=>by cases hy⟩
         · split at h
           · cases h
           · rename_i hf
             split at h
             · cases h
               exact ⟨by simp only; omega,pZ h1.1 hf,BY h2 hf⟩
             · cases h
theorem Bi {F:aH} {eof:Nat} (h1:Nx F) (h2:Ny F):∀ {n:Nat} {rows:List Rw} {r:List bV},cI F eof n rows= .ok r→∀ x∈r,m5 x:=by
 intro n
 induction n with
 | zero=>
   intro rows r h
   cases rows with
   | nil=>rw [cI] at h; cases h; intro x a; cases a
   | cons q rows=>rw [cI] at h; cases h
 | succ n ih=>
   intro rows r h
   cases rows with
   | nil=>rw [cI] at h; cases h
   | cons q rows=>
     rw [cI] at h
     split at h
     · cases h
     · rename_i he
       split at h
       · cases h
       · rename_i hr
         cases h
         intro x a
         rcases List.mem_cons.1 a with rfl | a
         · exact pT h1 h2 he
         · exact ih hr x a
theorem AW {F:aH} {t:Tx} {xs:List bV} (h1:Nx F) (h2:Ny F) (h:dI F t= .ok xs):(∀ x∈xs,m5 x)∧xs.length≤8192:=by
 unfold dI at h
 split at h
 · cases h
 · split at h
   · cases h
   · split at h
     · cases h
     · split at h
       · cases h
       · rename_i hn
         refine ⟨Bi h1 h2 h,?_⟩
         have hl:=(Bj h).1
         unfold cJ at hn
         split at hn
         · cases hn
         · cases hn
           rename_i h0
           have :=oc _ 8192 (Classical.not_not.1 h0)
           omega
end Go.Hb.l6
end
section
set_option maxRecDepth 20000
set_option maxHeartbeats 1000000
namespace Go.Hb.l5
open Go.Hb.cU
open Go.Proofs
open Go.Hb.eK Go.Hb.fg Go.Hb.fz Go.Hb.ju Go.Hb.gX Go.Hb.jX Go.Hb.fJ Go.Hb.jx Go.Hb.jZ Go.Hb.ks Go.Hb.l7 Go.Hb.l6 Go.Hb.oY
theorem Bn (a b c i j p:Int) (w:World):(binOp .eql 25 (.agg [.int .i64 a,.int .i64 b,.int .i64 c].toArray) (.agg [.int .i64 i,.int .i64 j,.int .i64 p].toArray)).run Tryz.prog w= .ok (.bool (decide (a=i∧b=j∧c=p))) w:=by
 have u1:=Tryz.underlying3
 have u2:=Tryz.underlying3
 have u3:=Tryz.underlying23
 have q:Tryz.prog.underlying 25=some (.struct (Tryz.prog.fieldsOf 25)):=by kernel_rfl
 have hp:Tryz.prog.stoodInHeld 25=false :=by kernel_rfl
 rw [run_eql_struct,show (10000:Nat)=9999 +1 from rfl,run_equalIn_agg w 9999 25 _ _ q hp]
 simp only [Program.fieldsOf,Tryz.underlying25]
 go_simp
 by_cases h1:a=i <;> by_cases h2:b=j <;> by_cases h3:c=p <;> simp [h1,h2,h3]
section
variable {N:Fm} {σ:Nat→Value} {w:World} {dst:Option Nat} {ty:TypeId} {pos :String} {af:Array Edge} {g:Option (Nat×Bool)} {x y:Operand}
theorem n9 {A:TypeId} {a b c i j p:Int} (s:ev N σ x= .agg [.int .i64 a,.int .i64 b,.int .i64 c].toArray) (hy:ev N σ y= .agg [.int .i64 i,.int .i64 j,.int .i64 p].toArray):
 (execOp (ev N σ) ⟨dst,.binOp .neq 25 x y A,ty,pos,af,g⟩).run Tryz.prog w= .ok (.value (.bool (decide (¬(a=i∧b=j∧c=p))))) w:=by
 have hm:Tryz.prog.eqGuardType Tryz.prog.depth 25=false :=by kernel_rfl
 have hg:=run_eqGuard_agg w .neq 25 x y [.int .i64 a,.int .i64 b,.int .i64 c].toArray [.int .i64 i,.int .i64 j,.int .i64 p].toArray hm
 have he:(binOp .neq 25 (.agg [.int .i64 a,.int .i64 b,.int .i64 c].toArray) (.agg [.int .i64 i,.int .i64 j,.int .i64 p].toArray)).run Tryz.prog w= .ok (.bool (decide (¬(a=i∧b=j∧c=p)))) w:=by
  have h:=Bn a b c i j p w
  simp only [binOp,Sem.run_bind] at h ⊢
  generalize ((Op.equal 25 (.agg [.int .i64 a,.int .i64 b,.int .i64 c].toArray) (.agg [.int .i64 i,.int .i64 j,.int .i64 p].toArray)).run Tryz.prog w)=r at h ⊢
  cases r with
  | ok q C=>
    simp only [Result.andThen_ok,Sem.run_pure,Result.ok.injEq,Value.bool.injEq] at h ⊢
    rw [h.1]
    exact ⟨(decide_not).symm,h.2⟩
  | halt q C=>simp [Result.andThen] at h
 simp only [execOp,s,hy,Sem.run_bind,hg,he,Result.andThen_ok,Sem.run_pure]
end
end Go.Hb.l5
end
section
set_option maxRecDepth 20000
set_option maxHeartbeats 1000000
namespace Go.Hb.oU
open Go.Hb.cU
open Go.Proofs
open Go.Hb.eK Go.Hb.fg Go.Hb.fz Go.Hb.fJ Go.Hb.jZ Go.Hb.ks Go.Hb.l5
theorem uA (ls:List Tx) (i:Nat):(bA (ls.take i)).length≤(bA ls).length:=by
 have h:=congrArg List.length (mD (ls.take i) (ls.drop i))
 rw [List.take_append_drop,List.length_append] at h; omega
theorem n0 {ls:List Tx} {i:Nat} (h:i < ls.length):bA (ls.take (i+1))=bA (ls.take i)++(ls.getD i []++ [13,10]):=by
 rw [im ls i [] h,mD]; simp [bA]
theorem Df:∀ (l cur:Tx),(bA (b8 cur l)).length≤cur.length+3 *l.length+2:=by
 intro l
 induction l with
 | nil=>
   intro cur
   unfold b8
   split
   · simp [bA]
   · have :=nO cur; simp [bA]; omega
 | cons b r ih=>
   intro cur
   unfold b8
   split
   · have :=nO cur; have :=ih []; rw [nZ]; simp at*; omega
   · have :=ih (cur++ [b]); simp at*; omega
theorem qo (t:Tx):(bA (aC t)).length≤3 *t.length+2:=by
 have :=Df (fI t) []; have :=mX t; unfold aC; simp at*; omega
theorem lG (a:Option Addr) (c:Nat) (ls:List Tx) (w:World) (C:bh w.heap a ls) (hl:ls.length≤1048576) (ah:(bA ls).length≤1048576):
 aT Tryz.prog 19 (List.toArray [.slice a ls.length c]) w (fun v w'=>v=str (bA ls)∧Wk w w'):=by
 refine enter Tryz.func19 rfl Tryz.ntmps19 rfl ?_
 refine ae (fun _ E=>(aj (((E _ _ (ae (fun _ G=>(p au ?_))))))))
 refine ak ((G _ _ (sq (fun _ I=>ae (fun _ J=>(ag (.slice a ls.length c) (p (bp ea rfl rfl) (p mv ?_))))))))
 refine ak ((J _ _ (aw (lp (fun A j wI=> ∃ (i:Nat),(i≤ls.length)∧(Wk w wI)∧(j 3=str (bA (ls.take i)))∧(j 6= .slice a ls.length c)∧(j 7=U (ls.length))∧(j 8=U i)∧(ls.length - i=A)) _ ⟨0,(by omega),(Md.refl _ _),(by first | rfl | (rw [n0 (by omega)]; rfl)),rfl,rfl,rfl,rfl⟩ ?_))))
 rintro A j wI ⟨i,hi,q,Z,aa,ab,ac,rfl⟩
 refine fx 3 Z (fx 6 aa (fx 7 ab (fx 8 ac (ae (fun _ M=>(p (lt rfl rfl) (ak ((M _ _ (sq (fun _ O=>cd rfl (fun Y=> ?_) (fun Y=> ?_))))))))))))
 refine aE (tn (O _ _ (sq (fun _ s=>aw (ae (fun _ V=>(p (aK bO rfl rfl (by omega) (ao.ok (C.wk q) (bL (by omega)))) (p (ld bW rfl (bh.get (i:=i) (C.wk q) (by omega))) ?_))))))))
 refine aj (((V _ _ (rg rfl (ag (str (bA (ls.take i))) (p mv (p (cc rfl rfl (by have :=congrArg List.length (n0 (ls:=ls) (i:=i) (by omega)); have :=uA ls (i+1); simp at*; omega)) (p (cc rfl rfl (by have :=congrArg List.length (n0 (ls:=ls) (i:=i) (by omega)); have :=uA ls (i+1); simp at*; omega)) ?_))))))))
 refine p au (nl (bn (tn (s _ _ (rg rfl (p (ad rfl rfl (bC (by omega))) (p mv (nl ?_))))))))
 exact tn (⟨_,by omega,i+1,(by omega),q,(by first | rfl | (rw [n0 (by omega)]; rfl)),rfl,rfl,rfl,rfl⟩)
 refine ext (te _ (te _ (be (tn (I _ _ (ae (fun _ s=>(ag (str (bA (ls.take i))) ?_))))))))
 exact p (bD (str (bA (ls.take i))) rfl) (ak ((s _ _ (rt (f1 rfl rfl (⟨by rw [List.take_of_length_le (by omega)]; rfl,q⟩))))))
theorem Bg (x:bV) (a b:Option Addr) (c d:Nat) (w:World) (V:ao w.heap a (x.2.map aB)) (Y:ao w.heap b (x.2.map aB)) (hl:x.2.length≤1048576):
 aT Tryz.prog 21 (List.toArray [.agg [str x.1,.slice a x.2.length c].toArray,.agg [str x.1,.slice b x.2.length d].toArray]) w (fun v w'=>v= .bool true∧Wk w w'):=by
 refine enter Tryz.func21 rfl Tryz.ntmps21 rfl ?_
 refine ae (fun _ aa=>(e (iw rfl fun I aD hb2 ar hB2=> ?_)))
 have hB2x:ba aD.heap I [str x.1,.slice a x.2.length c]:=hB2
 refine e (iw rfl fun M w3 aF Z aq=> ?_)
 have A:Wk w w3:=ar.md.trans Z.md
 have J:ba w3.heap M [str x.1,.slice b x.2.length d]:=aq
 have E:ba w3.heap I [str x.1,.slice a x.2.length c]:=Wk.B Z.md hB2x
 refine aj (((aa _ _ (sq (fun _ ac=>ae (fun _ ah=>(p (fa lA rfl) (p (ld bW rfl (E.bS 0)) ?_))))))))
 refine p (fa lA rfl) (p (ld bW rfl (J.bS 0)) (p (lJ rfl rfl) (p mv (gs (t:=11) rfl (fun h=>absurd h (fun h=>h rfl)) (fun hg11=> ?_)))))
 refine pg rfl rfl rfl (fa jL rfl) (pg rfl rfl rfl (ld g4 rfl (E.bS 1)) (pg rfl rfl rfl (bp gW rfl rfl) (pg rfl rfl rfl (fa jL rfl) (pg rfl rfl rfl (ld g4 rfl (J.bS 1)) (pg rfl rfl rfl (bp gW rfl rfl) (pg rfl rfl rfl (dt rfl rfl) (p (bc rfl) ?_)))))))
 refine ak ((ah _ _ (cd rfl (fun h=>absurd h (fun h=>h rfl)) (fun aG=> ?_))))
 refine aE (tn (ac _ _ (sq (fun _ ai=>ae (fun _ al=>(p (fa jL rfl) (p (ld g4 rfl (E.bS 1)) (p (bp gW rfl rfl) ?_))))))))
 refine p mv (ak ((al _ _ (aw (lp (fun O C wI=> ∃ (i:Nat),(i≤x.2.length)∧(Wk w3 wI)∧(C 2=aW I)∧(C 3=aW M)∧(C 22=U (x.2.length))∧(C 23=U i)∧(x.2.length - i=O)) _ ⟨0,(by omega),(Md.refl _ _),rfl,rfl,rfl,rfl,rfl⟩ ?_)))))
 rintro O C wI ⟨i,hi,q,ax,aC,ay,az,rfl⟩
 refine fx 2 ax (fx 3 aC (fx 22 ay (fx 23 az (ae (fun _ am=>(p (lt rfl rfl) (ak ((am _ _ (sq (fun _ an=>cd rfl (fun av=> ?_) (fun av=> ?_))))))))))))
 refine aE (tn (an _ _ (sq (fun _ G=>aw (ae (fun _ ap=>(ag (U i) (p (bD (U i) rfl) ?_))))))))
 refine ak ((ap _ _ (sq (fun _ ab=> ?_))))
 have j:(fun w'=>Wk wI w') wI.drew:=(Md.refl _ _).drew
 refine bI (fun w'=>Wk wI w') rfl wide j (aM 0 rfl (fun _ _=>fa jL rfl) j (aM 1 rfl (fun w' s=>ld g4 rfl (Wk.aA s ((Wk.B q E).bS 1))) j (bf 2 rfl (U i) j (aM 3 rfl (fun _ _=>aK a4 rfl rfl (by omega) (ao.ok ((V.wk A).wk q) (bL (by omega)))) j (aM 4 rfl (fun w' s=>ld bg rfl (Wk.aA s (ao.gG ((V.wk A).wk q) (show (x.2.map aB)[i]? =some (aB (x.2.getD i 0)) by rw [List.getElem?_map,List.getD_eq_getElem?_getD,List.getElem?_eq_getElem (by omega :i < x.2.length)]; rfl)))) j ?_)))))
 refine aM 5 rfl (fun _ _=>fa jL rfl) j (aM 6 rfl (fun w' s=>ld g4 rfl (Wk.aA s ((Wk.B q J).bS 1))) j (bf 7 rfl (U i) j (aM 8 rfl (fun _ _=>aK a4 rfl rfl (by omega) (ao.ok ((Y.wk A).wk q) (bL (by omega)))) j (aM 9 rfl (fun w' s=>ld bg rfl (Wk.aA s (ao.gG ((Y.wk A).wk q) (show (x.2.map aB)[i]? =some (aB (x.2.getD i 0)) by rw [List.getElem?_map,List.getD_eq_getElem?_getD,List.getElem?_eq_getElem (by omega :i < x.2.length)]; rfl)))) j ?_))))
 refine aM 10 rfl (fun _ _=>dt rfl rfl) j (hn (by kernel_rfl) (tn (ab _ _ (cd rfl (fun h=>absurd h (fun h=>h rfl)) (fun aH=> ?_)))))
 refine aE (bn (tn (G _ _ (rg rfl (p (ad rfl rfl (bC (by omega))) (p mv (nl (tn ?_))))))))
 exact ⟨_,by omega,i+1,(by omega),(q.trans j),rfl,rfl,rfl,rfl,rfl⟩
 refine ext (te _ (te _ (be (tn (ai _ _ (ae (fun _ G=>(p au ?_))))))))
 exact ak ((G _ _ (rt (f1 rfl rfl (⟨rfl,A.trans q⟩)))))
end Go.Hb.oU
end
section
set_option maxRecDepth 20000
set_option maxHeartbeats 1000000
namespace Go.Hb.oW
open Go.Hb.cU
open Go.Proofs
open Go.Hb.eK Go.Hb.fg Go.Hb.fz Go.Hb.ju Go.Hb.gX Go.Hb.jX Go.Hb.fJ Go.Hb.jx Go.Hb.jZ Go.Hb.ks Go.Hb.l7 Go.Hb.l6 Go.Hb.l5 Go.Hb.oY
theorem lX (w:World):
 aT Tryz.prog 13 (List.toArray []) w (fun v w'=>v= .bool true∧Wk w w'):=by
 refine enter Tryz.func13 rfl Tryz.ntmps13 rfl ?_
 refine ae (fun _ ad=>(aj (((ad _ _ (ae (fun _ ag=>(e (cl fi (ky oP w (by decide)) rfl fun a8 w7 hR7=> ?_)))))))))
 obtain ⟨U,hE7⟩:=hR7
 rw [GU] at U
 obtain ⟨fb,mc,V,aL,hF7,av,ay⟩:=U
 subst aL
 refine p mv (p (xt rfl rfl) (p (xt rfl rfl) (e (al fy fun aP a9 hb2 I hB2=> ?_))))
 have hz2:=I.size
 have hz7:=hE7.size
 refine p au (e (bJ dO rfl rfl rfl rfl (hB2) (by simp) fun wt1_6 G aU=> ?_))
 have A:Wk w7 wt1_6:=I.md.trans' G (fun q aF h=>by omega)
 have hz1:=G.size
 refine ak ((ag _ _ (ae (fun _ ah=>(p mv (e (cl fj (kM w.heap.size fb mc lZ V rj wt1_6 (hF7.wk A) av ay (by decide)) rfl fun dw w12 az=> ?_)))))))
 obtain ⟨O,hE12⟩:=az
 rw [GV] at O
 obtain ⟨B,ac,Z,aa,vs,aS,aJ,aC,_⟩:=O
 subst aJ
 refine p mv (p (xt rfl rfl) (p (xt rfl rfl) (e (al fy fun aQ w4 aV J ar=> ?_))))
 have hz4:=J.size
 have hz12:=hE12.size
 refine p au (e (bJ dO rfl rfl rfl rfl (ar) (by simp) fun wt2_7 ax aq=> ?_))
 have C:Wk w12 wt2_7:=J.md.trans' ax (fun q aF h=>by omega)
 have hW2:=aC.wk C
 refine ak ((ah _ _ (sq (fun _ ai=>ae (fun _ am=>(p mv (p (e8 iN rfl rfl) (p mv ?_))))))))
 refine gb (t:=17) rfl (fun h=>absurd (h.symm.trans (rfl)) Bool.noConfusion) (fun aX=> ?_)
 refine pg rfl rfl rfl (cR fE rfl (rfl) (fun j a3=>aq.bS j)) (pg rfl rfl rfl (cz (ps:= []) (L:= [.int .i64 0,.int .i64 0,.int .i64 0]) lQ rfl (rfl)) (pg rfl rfl rfl (n9 rfl rfl) (p (bc rfl) (p mv (gs (t:=22) rfl (fun h=>absurd h (fun h=>h ⟨rfl,rfl,rfl⟩)) (fun aY=> ?_))))))
 refine pg rfl rfl rfl mv (eg rfl rfl rfl (cl kI (pO B ac Z aa vs kY wt2_7 hW2 (by decide)) rfl fun a6 ab aA=> ?_))
 obtain ⟨rfl,E⟩:=aA
 have hW24:=hW2.wk E
 refine pg rfl rfl rfl (dt rfl rfl) (p (bc rfl) (ak ((am _ _ (cd rfl (fun h=>absurd h (fun h=>h rfl)) (fun aW=> ?_))))))
 refine aE (tn (ai _ _ (ae (fun _ an=>(p mv (e (cl kH (pL B ac Z aa vs kY ab hW24 (by decide) (by decide)) rfl fun a7 w28 aB=> ?_)))))))
 obtain ⟨aD,aw⟩:=aB
 obtain ⟨vx,Y,M,_⟩:=aD
 have hsl:=cH Y
 obtain ⟨aO,aR,aM⟩:=hsl
 subst aM
 obtain ⟨a5,aH,a⟩:=bN.get M (show 0 < (kY.map (·.2)).length by decide)
 obtain ⟨u1,aI,hT1⟩:=bN.get M (show 1 < (kY.map (·.2)).length by decide)
 have hs0:=a.slice
 obtain ⟨c,s,aN⟩:=hs0
 subst aN
 have a:Tg w28 ab.heap.size 71 1 (.slice c 1 s) [.int .u16 (65:Nat)]:=a
 have hC:=(aG Y).2
 have hq0:(kY.zip vx)[0]? =some (([102,108,121],[65]),.slice c 1 s):=List.getElem?_zip_eq_some.2 ⟨rfl,aH⟩
 have hq1:(kY.zip vx)[1]? =some (([105,110,47,111,117,116],[]),u1):=List.getElem?_zip_eq_some.2 ⟨rfl,aI⟩
 refine aj (((an _ _ (ae (fun _ ap=>(p mv (p (bp kn rfl rfl) (p (bu rfl rfl) ?_))))))))
 refine p mv (gs (t:=32) rfl (fun aZ=> ?_) (fun h=>absurd rfl h))
 refine pg rfl rfl rfl mv (pg rfl rfl rfl (aK j9 rfl rfl (by decide) (ao.ok (hC) (j8 hq0))) (pg rfl rfl rfl (fa lA rfl) (pg rfl rfl rfl (ld bW rfl (hZ (f:=hU) (m:=2) (i:=0) (fun _=>rfl) hC hq0 0 (by decide))) (pg rfl rfl rfl (fp rfl rfl) (p (bz rfl) (p mv (gs (t:=39) rfl (fun a0=> ?_) (fun h=>absurd rfl h))))))))
 refine pg rfl rfl rfl mv (pg rfl rfl rfl (aK j9 rfl rfl (by decide) (ao.ok (hC) (j8 hq0))) (pg rfl rfl rfl (fa jL rfl) (pg rfl rfl rfl (ld g4 rfl (hZ (f:=hU) (m:=2) (i:=0) (fun _=>rfl) hC hq0 1 (by decide))) (pg rfl rfl rfl (bp gW rfl rfl) (pg rfl rfl rfl (bu rfl rfl) (p (bz rfl) (p mv ?_)))))))
 refine gs (t:=47) rfl (fun a1=> ?_) (fun h=>absurd rfl h)
 refine pg rfl rfl rfl mv (pg rfl rfl rfl (aK j9 rfl rfl (by decide) (ao.ok (hC) (j8 hq0))) (pg rfl rfl rfl (fa jL rfl) (pg rfl rfl rfl (ld g4 rfl (hZ (f:=hU) (m:=2) (i:=0) (fun _=>rfl) hC hq0 1 (by decide))) (pg rfl rfl rfl (aK a4 rfl rfl (by decide) (ao.ok (a.bK.2) (by simp))) (pg rfl rfl rfl (ld bg rfl (ao.gG (i:=0) a.bK.2 rfl)) (pg rfl rfl rfl (bu rfl rfl) (p (bz rfl) ?_)))))))
 refine p mv (gs (t:=56) rfl (fun a2=> ?_) (fun h=>absurd rfl h))
 refine pg rfl rfl rfl mv (pg rfl rfl rfl (aK j9 rfl rfl (by decide) (ao.ok (hC) (j8 hq1))) (pg rfl rfl rfl (fa lA rfl) (pg rfl rfl rfl (ld bW rfl (hZ (f:=hU) (m:=2) (i:=1) (fun _=>rfl) hC hq1 0 (by decide))) (pg rfl rfl rfl (fp rfl rfl) (p (bz rfl) (p au (nl ?_)))))))
 exact tn (ap _ _ (rt (f1 rfl rfl (⟨congrArg Value.bool (decide_eq_true rfl),hE7.trans (A.trans (hE12.trans (C.trans (E.trans aw))))⟩))))
theorem xH {s:Tx} {F:aH} (h:eo s= .ok F):Nx F:=by
 unfold eo at h
 split at h
 · cases h
 · split at h
   · cases h
   · rename_i f hf
     split at h
     · cases h
     · cases h
       have key:∀ (k:Nat) (F F':aH) (hs:List Tx) (rows:List Rw) (eof:Nat),Nx F→ew eof k F hs rows= .ok F'→Nx F':=by
        intro k
        induction k with
        | zero=>intro F F' hs rows eof h a; rw [ew] at a; split at a <;> cases a; exact h
        | succ k ih=>
          intro F F' hs rows eof h a
          cases rows with
          | nil=>rw [qT] at a; cases a; exact h
          | cons q rows=>
            rw [ew] at a
            split at a
            · cases a
            · split at a
              · cases a
              · split at a
                · cases a
                · split at a
                  · cases a
                  · rename_i r hr
                    exact ih _ _ _ _ _ (qk (rows':=r.2) h hr) a
       exact key _ _ _ _ _ _ ⟨fun l hl=>(by cases hl),fun l hl=>(by cases hl)⟩ hf
end Go.Hb.oW
end
section
set_option maxRecDepth 20000
set_option maxHeartbeats 1000000
namespace Go.Hb.rA
open Go.Proofs
open Go.Hb.eK Go.Hb.fg Go.Hb.fz Go.Hb.ju Go.Hb.gX Go.Hb.jX Go.Hb.fJ Go.Hb.jx Go.Hb.jZ Go.Hb.ks Go.Hb.l7 Go.Hb.l6 Go.Hb.l5 Go.Hb.oU Go.Hb.fY Go.Hb.oZ Go.Hb.oW
section
variable {F:aH} {t:Tx} {ln er:Nat}
theorem BM (h:dI F t= .error (ln,er)) (hl:¬65536 < t.length):(1≤ln∧ln≤(aC t).length+1)∧(ln=(aC t).length+1→er=116):=by
 rw [pM,if_neg hl] at h
 rcases A1 h with ⟨h1,h2⟩ | ⟨q,a,h1⟩
 · exact ⟨by omega,fun _=>h2⟩
 · have :=oo _ _ _ a
   exact ⟨by omega,by omega⟩
variable (h:dI F t= .error (ln,er)) (hl:¬65536 < t.length)
include h hl
end
end Go.Hb.rA
end
section
set_option maxRecDepth 20000
set_option maxHeartbeats 1000000
namespace Go.Hb.rB
open Go.Hb.cU
open Go.Proofs
open Go.Hb.eK Go.Hb.fg Go.Hb.fz Go.Hb.ju Go.Hb.gX Go.Hb.jX Go.Hb.fJ Go.Hb.jx Go.Hb.jZ Go.Hb.ks Go.Hb.l7 Go.Hb.l6 Go.Hb.l5 Go.Hb.oU Go.Hb.fY Go.Hb.oZ Go.Hb.oW Go.Hb.rA
def cC:List Tx:= [[],[35,32,51,32,120,47,65],[9]]
def bw (ls:List Tx) (k:Nat):List Tx:=ls.take k++cC++ls.drop k
theorem n8 (ls:List Tx) (k:Nat):(bw ls k).length=ls.length+3∧(bA (bw ls k)).length=(bA ls).length+14:=by
 have h1:bA ls=bA (ls.take k)++bA (ls.drop k):=by rw [← mD,List.take_append_drop]
 have h2:=congrArg List.length h1
 have h3:(bA cC).length=14:=rfl
 have h4:=congrArg List.length (List.take_append_drop k ls)
 unfold bw
 rw [mD,mD]
 simp only [List.length_append] at*
 exact ⟨by have :cC.length=3:=rfl; omega,by omega⟩
theorem E9:∀ l∈cC,∀ n,je l n= []:=by
 intro l hl n
 have h:jd (bT [] l)= []:=by
  simp only [cC,List.mem_cons,List.not_mem_nil,or_false] at hl
  rcases hl with rfl | rfl | rfl <;> decide
 exact if_pos h
theorem Fa (n:Nat):du n cC= []:=by
 have h:=E9
 simp only [cC,List.mem_cons,List.not_mem_nil,or_false,forall_eq_or_imp,forall_eq] at h
 simp only [cC,du,h,List.append_nil]
def jR (k n:Nat):Nat:=if k < n then n+3 else n
theorem qU {F:aH} {t:Tx} {k:Nat} (hk:k≤(aC t).length) (hs:¬65536 < (bA (bw (aC t) k)).length) (hm:fS (bA (aC t))=false):dI F (bA (bw (aC t) k))=mG (jR k) (dI F (bA (aC t))):=by
 have hll:=(n8 (aC t) k)
 have a:∀ l∈aC t,10∉l:=fun l hl=>DC hl
 have A:∀ l∈bw (aC t) k,10∉l:=fun l hl=>by
  unfold bw at hl
  rcases List.mem_append.1 hl with hl | hl
  · rcases List.mem_append.1 hl with hl | hl
    · exact a _ (List.mem_of_mem_take hl)
    · have hd:∀ l∈cC,10∉l:=by decide
      exact hd _ hl
  · exact a _ (List.mem_of_mem_drop hl)
 have s:fS (bA (bw (aC t) k))=false :=by
  cases hlt:(aC t).take k with
  | nil=>unfold bw; rw [hlt]; show fS (bA ([]::_))=false; rw [uQ [] _ []]; decide
  | cons l r=>
    have h1:bA (aC t)=bA (l::(r++(aC t).drop k)):=by
     have h:=List.take_append_drop k (aC t)
     rw [hlt] at h; exact congrArg bA (h.symm.trans (List.cons_append ..))
    have h2:bA (bw (aC t) k)=bA (l::(r++cC++(aC t).drop k)):=by unfold bw; rw [hlt]; rfl
    rw [h2,uQ l _ (r++(aC t).drop k),← h1]; exact hm
 have e1:=uL a hm
 have e2:=uL A s
 rw [pM,if_neg hs,pM,if_neg (by omega)]
 unfold cT
 rw [e1,e2,hll.1]
 have i:((aC t).take k).length=k:=by rw [List.length_take]; omega
 have j:du 1 (aC t)=du 1 ((aC t).take k)++du (1 +k) ((aC t).drop k):=by
  have h:=qV ((aC t).take k) ((aC t).drop k) 1
  rw [List.take_append_drop,i] at h; exact h
 have p:du 1 (bw (aC t) k)=(du 1 (aC t)).map fun q=>(jR k q.1,q.2):=by
  unfold bw
  rw [qV,qV,Fa,List.append_nil,j,List.map_append,List.length_append,i,show 1 +(k+cC.length)=1 +k+3 from by show 1 +(k+3)=_; omega,FC 3]
  congr 1
  · conv =>lhs; rw [← List.map_id (du 1 ((aC t).take k))]
    refine List.map_congr_left fun q c=> ?_
    have :=oo _ _ _ c
    unfold jR; rw [if_neg (by omega)]; rfl
  · refine List.map_congr_left fun q c=> ?_
    have :=oo _ _ _ c
    unfold jR; rw [if_pos (by omega)]
 rw [p,← A2]
 congr 1
 unfold jR; rw [if_pos (by omega)]
theorem il (l:List Tx):(l.map str).all Value.oneCell'=true :=List.all_eq_true.2 fun v hv=>by
 obtain ⟨s,_,rfl⟩:=List.mem_map.1 hv; rfl
theorem Fe (a t:Tx) (w:World) (ha:a.length≤1048576) (aa:t.length≤1048576) (x:Int) (k:Nat) (hk:max 0 (min x ((aC t).length:Nat))=(k:Nat)) (le ad:Nat) (ac:eo a= .error (le,ad)) (Z:65536 < t.length):
 aT Tryz.prog 5 (List.toArray [str a,str t,.int .i64 x]) w (fun v w'=>v= .bool true∧Wk w w'):=by
 refine enter Tryz.func5 rfl Tryz.ntmps5 rfl ?_
 refine ae (fun _ s=>(aj (((s _ _ (sq (fun _ A=>ae (fun _ C=> ?_))))))))
 refine e (cl lf (lX w) rfl fun ar w21 U=> ?_)
 obtain ⟨rfl,hE21⟩:=U
 refine p (no rfl) (ak ((C _ _ (cf (rfl) (aE (tn (A _ _ (ae (fun _ E=> ?_)))))))))
 refine ag (str t) (e (cl jF (lN t _ aa) rfl fun av w25 V=> ?_))
 obtain ⟨⟨ai,rfl,ao⟩,hE25⟩:=V
 refine p mv (p (xt rfl rfl) (p (xt rfl rfl) (p au (aj (((E _ _ (sq (fun _ G=> ?_)))))))))
 refine rg rfl (ag (str a) (e (cl fi (ky a w25 (by omega)) rfl fun v30 w30 Y=> ?_)))
 obtain ⟨j,c⟩:=Y
 rw [ac] at j
 have ab:v30=_:=j
 subst ab
 refine p mv (p (xt rfl rfl) (p (xt rfl rfl) (e (al fy fun am w10 hb10 i M=> ?_))))
 have hz10:=i.size
 have hz30:=c.size
 refine p au (e (bJ dO rfl rfl rfl rfl (M) (by simp) fun wt4_7 O an=> ?_))
 have hE4:Wk w30 wt4_7:=i.md.trans' O (fun q aq h=>by omega)
 have hE4x:=hE21.trans (hE25.trans (c.trans hE4))
 refine ak ((G _ _ (sq (fun _ ah=>ae (fun _ I=>(p mv (p (dt rfl rfl) (p mv ?_))))))))
 refine gs (t:=35) rfl (fun ap=> ?_) (fun h=>absurd (by rw [if_pos Z]; decide) h)
 refine sk rfl rfl rfl rfl (sk rfl rfl rfl rfl (p (bz rfl) (ak ((I _ _ (ct rfl (ae (fun _ J=> ?_))))))))
 exact aj (((J _ _ (rt (tr (f1 rfl rfl (⟨rfl,hE4x⟩)))))))
theorem Ff (a t:Tx) (w:World) (ha:a.length≤1048576) (ab:t.length≤1048576) (x:Int) (k:Nat) (hk:max 0 (min x ((aC t).length:Nat))=(k:Nat)) (F:aH) (ad:eo a= .ok F) (aa:65536 < t.length):
 aT Tryz.prog 5 (List.toArray [str a,str t,.int .i64 x]) w (fun v w'=>v= .bool true∧Wk w w'):=by
 refine enter Tryz.func5 rfl Tryz.ntmps5 rfl ?_
 refine ae (fun _ s=>(aj (((s _ _ (sq (fun _ A=>ae (fun _ C=> ?_))))))))
 refine e (cl lf (lX w) rfl fun aw w21 U=> ?_)
 obtain ⟨rfl,hE21⟩:=U
 refine p (no rfl) (ak ((C _ _ (cf (rfl) (aE (tn (A _ _ (ae (fun _ E=> ?_)))))))))
 refine ag (str t) (e (cl jF (lN t _ ab) rfl fun ax w25 Y=> ?_))
 obtain ⟨⟨ai,rfl,aq⟩,hE25⟩:=Y
 refine p mv (p (xt rfl rfl) (p (xt rfl rfl) (p au (aj (((E _ _ (sq (fun _ G=> ?_)))))))))
 refine rg rfl (ag (str a) (e (cl fi (ky a w25 (by omega)) rfl fun v30 w30 Z=> ?_)))
 obtain ⟨j,c⟩:=Z
 rw [ad] at j
 obtain ⟨fb,mc,V,ac,hF30,an,ap⟩:=j
 subst ac
 refine p mv (p (xt rfl rfl) (p (xt rfl rfl) (e (al fy fun am w10 hb10 i M=> ?_))))
 have hz10:=i.size
 have hz30:=c.size
 refine p au (e (bJ dO rfl rfl rfl rfl (M) (by simp) fun wt4_7 O ao=> ?_))
 have hE4:Wk w30 wt4_7:=i.md.trans' O (fun q av h=>by omega)
 have hE4x:=hE21.trans (hE25.trans (c.trans hE4))
 refine ak ((G _ _ (sq (fun _ ah=>ae (fun _ I=>(p mv (p (dt rfl rfl) (p mv ?_))))))))
 refine gs (t:=35) rfl (fun ar=> ?_) (fun h=>absurd (by rw [if_pos aa]; decide) h)
 refine sk rfl rfl rfl rfl (sk rfl rfl rfl rfl (p (bz rfl) (ak ((I _ _ (ct rfl (ae (fun _ J=> ?_))))))))
 exact aj (((J _ _ (rt (tr (f1 rfl rfl (⟨rfl,hE4x⟩)))))))
theorem Fg (a t:Tx) (w:World) (ha:a.length≤1048576) (ab:t.length≤1048576) (x:Int) (k:Nat) (hk:max 0 (min x ((aC t).length:Nat))=(k:Nat)) (le ah:Nat) (ad:eo a= .error (le,ah)) (A:¬65536 < t.length):
 aT Tryz.prog 5 (List.toArray [str a,str t,.int .i64 x]) w (fun v w'=>v= .bool true∧Wk w w'):=by
 refine enter Tryz.func5 rfl Tryz.ntmps5 rfl ?_
 refine ae (fun _ C=>(aj (((C _ _ (sq (fun _ E=>ae (fun _ G=> ?_))))))))
 refine e (cl lf (lX w) rfl fun aw w21 Y=> ?_)
 obtain ⟨rfl,hE21⟩:=Y
 refine p (no rfl) (ak ((G _ _ (cf (rfl) (aE (tn (E _ _ (ae (fun _ I=> ?_)))))))))
 refine ag (str t) (e (cl jF (lN t _ ab) rfl fun ax w25 Z=> ?_))
 obtain ⟨⟨am,rfl,j⟩,hE25⟩:=Z
 rw [if_neg A] at j
 obtain ⟨av,ao,rfl⟩:=cH j
 refine p mv (p (xt rfl rfl) (p (xt rfl rfl) (p au (aj (((I _ _ (sq (fun _ J=> ?_)))))))))
 refine rg rfl (ag (str a) (e (cl fi (ky a w25 (by omega)) rfl fun v30 w30 aa=> ?_)))
 obtain ⟨s,c⟩:=aa
 rw [ad] at s
 have ac:v30=_:=s
 subst ac
 refine p mv (p (xt rfl rfl) (p (xt rfl rfl) (e (al fy fun an w10 hb10 i U=> ?_))))
 have hz10:=i.size
 have hz30:=c.size
 refine p au (e (bJ dO rfl rfl rfl rfl (U) (by simp) fun wt4_7 V ap=> ?_))
 have hE4:Wk w30 wt4_7:=i.md.trans' V (fun q ar h=>by omega)
 have hE4x:=hE21.trans (hE25.trans (c.trans hE4))
 refine ak ((J _ _ (sq (fun _ ai=>ae (fun _ M=>(p mv (p (dt rfl rfl) (p mv ?_))))))))
 refine gs (t:=35) rfl (fun h=>absurd h (fun h=>h (if_neg A))) (fun aq=> ?_)
 refine pg rfl rfl rfl mv (pg rfl rfl rfl (e8 km rfl rfl) (p (bc rfl) (ak ((M _ _ (ct (rfl) (ae (fun _ O=> ?_))))))))
 exact aj (((O _ _ (rt (tr (f1 rfl rfl (⟨rfl,hE4x⟩)))))))
theorem Fh (a t:Tx) (w:World) (ha:a.length≤1048576) (dj:t.length≤1048576) (x:Int) (k:Nat) (hk:max 0 (min x ((aC t).length:Nat))=(k:Nat)) (F:aH) (O:eo a= .ok F) (b1:¬65536 < t.length) (xs:List bV) (hd:dI F (bA (aC t))= .ok xs):
 aT Tryz.prog 5 (List.toArray [str a,str t,.int .i64 x]) w (fun v w'=>v= .bool true∧Wk w w'):=by
 have a2:k≤(aC t).length:=by omega
 have hllt:=ib t
 have hjl:=qo t
 have hml:=n8 (aC t) k
 obtain ⟨a1,hxl⟩:(∀ x∈xs,m5 x)∧xs.length≤8192:=AW (xH O) (xI O) hd
 refine enter Tryz.func5 rfl Tryz.ntmps5 rfl ?_
 refine ae (fun _ b9=>(aj (((b9 _ _ (sq (fun _ cm=>ae (fun _ cr=> ?_))))))))
 refine e (cl lf (lX w) rfl fun d1 w21 cO=> ?_)
 obtain ⟨rfl,hE21⟩:=cO
 refine p (no rfl) (ak ((cr _ _ (cf (rfl) (aE (tn (cm _ _ (ae (fun _ cs=> ?_)))))))))
 refine ag (str t) (e (cl jF (lN t _ dj) rfl fun d2 w25 cP=> ?_))
 obtain ⟨⟨dJ,rfl,ai⟩,hE25⟩:=cP
 rw [if_neg b1] at ai
 obtain ⟨Y,Z,rfl⟩:=cH ai
 refine p mv (p (xt rfl rfl) (p (xt rfl rfl) (p au (aj (((cs _ _ (sq (fun _ cu=> ?_)))))))))
 refine rg rfl (ag (str a) (e (cl fi (ky a w25 (by omega)) rfl fun v30 w30 cS=> ?_)))
 obtain ⟨bP,aP⟩:=cS
 rw [O] at bP
 obtain ⟨fb,mc,V,dp,hF30,bq,bG⟩:=bP
 subst dp
 refine p mv (p (xt rfl rfl) (p (xt rfl rfl) (e (al fy fun dK w10 hb10 bB cB=> ?_))))
 have hz10:=bB.size
 have hz30:=aP.size
 refine p au (e (bJ dO rfl rfl rfl rfl (cB) (by simp) fun wt4_7 cK dL=> ?_))
 have hE4:Wk w30 wt4_7:=bB.md.trans' cK (fun q bX h=>by omega)
 have hE4x:=hE21.trans (hE25.trans (aP.trans hE4))
 refine ak ((cu _ _ (sq (fun _ cv=>ae (fun _ cx=>(p mv (p (dt rfl rfl) (p mv ?_))))))))
 refine gs (t:=35) rfl (fun h=>absurd h (fun h=>h (if_neg b1))) (fun dT=> ?_)
 refine pg rfl rfl rfl mv (pg rfl rfl rfl (e8 km rfl rfl) (p (bc rfl) (ak ((cx _ _ (cf (rfl) (aE (tn (cv _ _ ?_)))))))))
 refine cQ (fun aF c=>(Wk w c)∧(Wk w30 c)∧(bh c.heap Y (aC t))∧(aF 2=U k)∧(aF 7= .slice Y (aC t).length Z)∧(aF 9=aW fb)) ?_ ?_
 refine rg rfl (ag (.int .i64 x) (p mv (p (bp ea rfl rfl) (p (mn rfl rfl) (p (mx rfl rfl) (p au (nl ?_)))))))
 exact tn (⟨hE4x,hE4,(ao.wk (aG ai).2 (aP.trans hE4)),(iv hk),rfl,rfl⟩)
 rintro aF c ⟨aR,bt,ar,c8,c9,da⟩
 refine fx 2 c8 (fx 7 c9 (fx 9 da ?_))
 refine cQ (fun az wC=> ∃ (C:Option Addr) (E:Nat),(Wk c wC)∧(World.ownsRow wC c.heap.size 9 1 (.slice C (bw (aC t) k).length E) (bw (aC t) k).length ((bw (aC t) k).map str))∧(az 2=U k)∧(az 7= .slice Y (aC t).length Z)∧(az 9=aW fb)∧(az 11= .slice C (bw (aC t) k).length E)) ?_ ?_
 have A:(fun w'=>Wk c w') c.drew:=(Md.refl _ _).drew
 refine bI (fun w'=>Wk c w') rfl wide A (bf 0 rfl (.slice Y (aC t).length Z) A (bf 1 rfl (U k) A (aM 2 rfl (fun _ _=>ki bO rfl rfl (by have :=(aG ai).1; omega)) A (bf 6 rfl (.slice Y (aC t).length Z) A (bf 7 rfl (U k) A (aM 8 rfl (fun _ _=>kj bO rfl rfl (by omega)) A (qi 3 4 rfl rfl (by kernel_rfl) ?_ ?_)))))))
 refine (ap cw ((show World.ownsRow c.drew c.heap.size 9 1 (.slice none 0 0) 0 [] from World.ownsRow_nil _ _ _ _)) rfl (by have :=Md.size A; omega) rfl (bh.take (ao.wk ar A) k) (by rw [List.length_map,List.length_take]; show _=k*1; omega) (il _) (by show (0 +k)*_≤_; omega) (by show 0 +k≤_; omega) fun a6 w47 a3 aS dw c5=> ?_)
 have hE47:Wk c.drew w47:=aS.mono (fun _ _ h=>by cases h)
 have ho47x:World.ownsRow w47 c.heap.size 9 1 (a6) ((aC t).take k).length (((aC t).take k).map str):=by rw [List.length_take,Nat.min_eq_left a2]; simpa using a3
 have ah:(fun w'=>Wk c w') w47:=Md.trans A hE47
 refine ⟨ah,?_⟩
 refine he 4 rfl (by kernel_rfl) (g7 cw (L:= [str [],str [35,32,51,32,120,47,65],str [9]]) rfl rfl rfl rfl fun aL w48 hb48 aq aN=> ?_)
 have hOwn:=aJ ho47x aq.md
 have hSrc:=ao.dz (show ba w48.heap aL [str [],str [35,32,51,32,120,47,65],str [9]] from ⟨_,aN⟩)
 have aY:c.heap.size≤w48.heap.size:=by have :=Md.size ah; have :=aq.size; omega
 have J:(fun w'=>Wk c w') w48:=Md.trans ah aq.md
 refine ⟨J,?_⟩
 refine he 5 rfl (by kernel_rfl) (ap cw (hOwn) rfl (aY) rfl (hSrc) (rfl) (rfl) (by rw [List.length_take]; omega) (by rw [List.length_take]; omega) fun a7 w49 a4 aU dx c6=> ?_)
 have ax:World.ownsRow w49 c.heap.size 9 1 (a7) ((aC t).take k++cC).length (((aC t).take k++cC).map str):=by rw [List.length_append,List.map_append]; exact a4
 have G:(fun w'=>Wk c w') w49:=Wk.own J hOwn aU (Nat.le_refl _)
 refine ⟨G,?_⟩
 refine he 9 rfl (by kernel_rfl) (ap cw (ax) rfl (by have :=Md.size G; omega) rfl (bh.drop (k:=k) (ao.wk ar G) (aG ai).1) (by rw [List.length_map,List.length_drop]; show _=(_ - k)*1; omega) (il _) (by show ((_:Nat)+(_ - k))*_≤_; rw [List.length_append,List.length_take]; have :cC.length=3:=rfl; omega) (by show (_:Nat)+(_ - k)≤_; rw [List.length_append,List.length_take]; have :cC.length=3:=rfl; omega) fun a8 w53 a5 aV dy c7=> ?_)
 have ay:World.ownsRow w53 c.heap.size 9 1 (a8) ((bw (aC t) k)).length (((bw (aC t) k)).map str):=by
  have e:(bw (aC t) k).length=((aC t).take k++cC).length+((aC t).length - k):=by unfold bw; simp only [List.length_append,List.length_drop]
  rw [e]; unfold bw; rw [List.map_append]; exact a5
 have M:(fun w'=>Wk c w') w53:=Wk.own G ax aV (Nat.le_refl _)
 refine ⟨M,?_⟩
 refine aM 10 rfl (fun _ _=>au) M (hn (by kernel_rfl) (tn ?_))
 obtain ⟨C,E,rfl⟩:=cH ay
 exact ⟨C,E,M,ay,rfl,rfl,rfl,rfl⟩
 refine (g7 cw (L:= [str [],str [35,32,51,32,120,47,65],str [9]]) rfl rfl rfl rfl fun aL w48 hb48 aq aN=> ?_)
 have J:(fun w'=>Wk c w') w48:=Md.trans A aq.md
 refine ⟨J,?_⟩
 refine he 3 rfl (by kernel_rfl) (ap cw ((show World.ownsRow w48 c.heap.size 9 1 (.slice none 0 0) 0 [] from World.ownsRow_nil _ _ _ _)) rfl (by have :=Md.size J; omega) rfl (bh.take (ao.wk ar J) k) (by rw [List.length_map,List.length_take]; show _=k*1; omega) (il _) (by show (0 +k)*_≤_; omega) (by show 0 +k≤_; omega) fun a6 w47 a3 aS dw c5=> ?_)
 have hE47:Wk w48 w47:=aS.mono (fun _ _ h=>by cases h)
 have ho47x:World.ownsRow w47 c.heap.size 9 1 (a6) ((aC t).take k).length (((aC t).take k).map str):=by rw [List.length_take,Nat.min_eq_left a2]; simpa using a3
 have hOwn:=ho47x
 have hSrc:=ao.dz (show ba w47.heap aL [str [],str [35,32,51,32,120,47,65],str [9]] from ⟨_,Wk.aw hE47 aN⟩)
 have aY:c.heap.size≤w47.heap.size:=by have :=Md.size J; have :=Md.size hE47; omega
 have ah:(fun w'=>Wk c w') w47:=Md.trans J hE47
 refine ⟨ah,?_⟩
 refine he 5 rfl (by kernel_rfl) (ap cw (hOwn) rfl (aY) rfl (hSrc) (rfl) (rfl) (by rw [List.length_take]; omega) (by rw [List.length_take]; omega) fun a7 w49 a4 aU dx c6=> ?_)
 have ax:World.ownsRow w49 c.heap.size 9 1 (a7) ((aC t).take k++cC).length (((aC t).take k++cC).map str):=by rw [List.length_append,List.map_append]; exact a4
 have G:(fun w'=>Wk c w') w49:=Wk.own ah hOwn aU (Nat.le_refl _)
 refine ⟨G,?_⟩
 refine he 9 rfl (by kernel_rfl) (ap cw (ax) rfl (by have :=Md.size G; omega) rfl (bh.drop (k:=k) (ao.wk ar G) (aG ai).1) (by rw [List.length_map,List.length_drop]; show _=(_ - k)*1; omega) (il _) (by show ((_:Nat)+(_ - k))*_≤_; rw [List.length_append,List.length_take]; have :cC.length=3:=rfl; omega) (by show (_:Nat)+(_ - k)≤_; rw [List.length_append,List.length_take]; have :cC.length=3:=rfl; omega) fun a8 w53 a5 aV dy c7=> ?_)
 have ay:World.ownsRow w53 c.heap.size 9 1 (a8) ((bw (aC t) k)).length (((bw (aC t) k)).map str):=by
  have e:(bw (aC t) k).length=((aC t).take k++cC).length+((aC t).length - k):=by unfold bw; simp only [List.length_append,List.length_drop]
  rw [e]; unfold bw; rw [List.map_append]; exact a5
 have M:(fun w'=>Wk c w') w53:=Wk.own G ax aV (Nat.le_refl _)
 refine ⟨M,?_⟩
 refine aM 10 rfl (fun _ _=>au) M (hn (by kernel_rfl) (tn ?_))
 obtain ⟨C,E,rfl⟩:=cH ay
 exact ⟨C,E,M,ay,rfl,rfl,rfl,rfl⟩
 rintro az wC ⟨C,E,ac,ho11,dc,dd,de,db⟩
 refine fx 2 dc (fx 7 dd (fx 9 de (fx 11 db (ae (fun _ cy=>(ag (.slice Y (aC t).length Z) (e (cl lg (lG Y Z (aC t) wC (ao.wk ar ac) (by omega) (by omega)) rfl fun d3 dD cT=> ?_))))))))
 obtain ⟨rfl,ab⟩:=cT
 refine ag (.slice C (bw (aC t) k).length E) (e (cl lg (lG C E (bw (aC t) k) dD (ao.wk (aG ho11).2 ab) (by omega) (by omega)) rfl fun d4 dE cU=> ?_))
 obtain ⟨rfl,hE57⟩:=cU
 refine p au (aj (((cy _ _ (sq (fun _ cz=>ae (fun _ bb=>(p mv ?_))))))))
 refine p (bY u9 rfl rfl) (p (gt rfl rfl) (p mv (gs (t:=61) rfl (fun hsz=> ?_) (fun hsz=> ?_))))
 refine sk rfl rfl rfl rfl (sk rfl rfl rfl rfl (p (bz rfl) (ak ((bb _ _ (ct rfl (ae (fun _ am=> ?_))))))))
 exact aj (((am _ _ (rt (tr (f1 rfl rfl (⟨rfl,aR.trans (ac.trans (ab.trans hE57))⟩)))))))
 refine pg rfl rfl rfl mv (eg rfl rfl rfl (cl nw (n7 (bA (aC t)) dE) rfl fun d5 dF cV=> ?_))
 obtain ⟨rfl,aB⟩:=cV
 refine p (bc rfl) (ak ((bb _ _ (cb rfl (fun bT=> ?_) (fun bT=> ?_)))))
 refine ae (fun _ am=>(aj (((am _ _ (rt (tr (f1 rfl rfl ?_))))))))
 exact ⟨rfl,aR.trans (ac.trans (ab.trans (hE57.trans aB)))⟩
 refine aE (tn (cz _ _ (ae (fun _ am=>(ag (aW fb) (p mv (e (cl fj (kM w25.heap.size fb mc F V (bA (aC t)) dF (hF30.wk (bt.trans (ac.trans (ab.trans (hE57.trans aB))))) bq bG (by omega)) rfl fun d6 w68 cW=> ?_))))))))
 obtain ⟨bQ,aQ⟩:=cW
 rw [hd] at bQ
 obtain ⟨B,b7,b2,b4,vs,dM,dq,bL,_⟩:=bQ
 subst dq
 refine p mv (p (xt rfl rfl) (p (xt rfl rfl) (e (al fy fun b15 w15 dQ bE cF=> ?_))))
 have hz15:=bE.size
 have hz68:=aQ.size
 refine p au (e (bJ dO rfl rfl rfl rfl (cF) (by simp) fun wt12_8 bv cD=> ?_))
 have hE12:Wk w68 wt12_8:=bE.md.trans' bv (fun q bX h=>by omega)
 have hz12:=bv.size
 have cG:ba wt12_8.heap b15 [.int .i64 0,.int .i64 0,.int .i64 0]:=cD
 refine ak ((am _ _ (ae (fun _ ca=>(ag (aW fb) (p mv (e (cl fj (kM w25.heap.size fb mc F V (bA (bw (aC t) k)) wt12_8 (hF30.wk (bt.trans (ac.trans (ab.trans (hE57.trans (aB.trans (aQ.trans hE12))))))) bq bG (by omega)) rfl fun d7 dG cX=> ?_))))))))
 obtain ⟨bR,an⟩:=cX
 rw [qU a2 (by omega) bT,hd] at bR
 obtain ⟨a9,b8,b3,b5,b6,dP,dr,bM,_⟩:=bR
 subst dr
 refine p mv (p (xt rfl rfl) (p (xt rfl rfl) (e (al fy fun cA w17 hb17 bF hB17=> ?_))))
 have hz17:=bF.size
 have hz74:=an.size
 refine p au (e (bJ dO rfl rfl rfl rfl (hB17) (by simp) fun wt13_8 bx cE=> ?_))
 have aa:Wk dG wt13_8:=bF.md.trans' bx (fun q bX h=>by omega)
 have hz13:=bx.size
 have cI:ba wt13_8.heap cA [.int .i64 0,.int .i64 0,.int .i64 0]:=cE
 have hB15y:=Wk.B (an.trans aa) cG
 have hEZ:=ac.trans (ab.trans (hE57.trans (aB.trans (aQ.trans (hE12.trans (an.trans aa))))))
 refine ak ((ca _ _ (sq (fun _ cc=>ae (fun _ ce=>(p (fa mz rfl) (p (ld dN rfl (hB15y.bS 1)) (ag (U k) ?_))))))))
 refine p (gt rfl rfl) (ak ((ce _ _ (cd rfl (fun h=>absurd h (by omega)) (fun dS=> ?_)))))
 refine aE (tn (cc _ _ (sq (fun _ cg=>ae (fun _ ch=>(p mv (p (e8 iN rfl rfl) (p mv ?_))))))))
 refine p (e8 iN rfl rfl) (p (qC u4 rfl rfl) (p mv (gs (t:=90) rfl (fun h=>absurd h (fun h=>h rfl)) (fun dU=> ?_))))
 refine pg rfl rfl rfl (cR fE rfl (rfl) (fun j av=>hB15y.bS j)) (pg rfl rfl rfl (cR fE rfl (rfl) (fun j av=>cI.bS j)) (pg rfl rfl rfl (n9 rfl rfl) (p (bc rfl) (p mv (gs (t:=95) rfl (fun h=>absurd h (fun h=>h ⟨rfl,rfl,rfl⟩)) (fun dV=> ?_))))))
 refine pg rfl rfl rfl mv (eg rfl rfl rfl (cl kI (pO B b7 b2 b4 vs xs wt13_8 (bL.wk (hE12.trans (an.trans aa))) (by omega)) rfl fun d8 w97 cY=> ?_))
 obtain ⟨rfl,bu⟩:=cY
 refine pg rfl rfl rfl mv (eg rfl rfl rfl (cl kI (pO a9 b8 b3 b5 b6 xs w97 (bM.wk (aa.trans bu)) (by omega)) rfl fun d9 dH cZ=> ?_))
 obtain ⟨rfl,cJ⟩:=cZ
 have hE99x:=bu.trans cJ
 refine pg rfl rfl rfl (dt rfl rfl) (p (bc rfl) (ak ((ch _ _ (cd rfl (fun h=>absurd h (fun h=>h rfl)) (fun dR=> ?_))))))
 refine aE (tn (cg _ _ (ae (fun _ ci=>(p mv (e (cl kH (pL B b7 b2 b4 vs xs dH (bL.wk (hE12.trans (an.trans (aa.trans hE99x)))) (by omega) (fun x O=>(a1 x O).2.1)) rfl fun dY dB cL=> ?_)))))))
 obtain ⟨c3,br⟩:=cL
 obtain ⟨vx,bU,c0,_⟩:=c3
 have hsl:=cH bU
 obtain ⟨bi,bl,ds⟩:=hsl
 subst ds
 refine p mv (e (cl kH (pL a9 b8 b3 b5 b6 xs dB (bM.wk (aa.trans (hE99x.trans br))) (by omega) (fun x O=>(a1 x O).2.1)) rfl fun dZ dC cM=> ?_))
 obtain ⟨c4,aO⟩:=cM
 obtain ⟨dA,bW,c1,_⟩:=c4
 have hsl:=cH bW
 obtain ⟨bj,bm,du⟩:=hsl
 subst du
 have hCx:=ao.wk (aG bU).2 aO
 have hCy:=(aG bW).2
 have halx:=c0.wk aO
 have hEX:=hEZ.trans (hE99x.trans (br.trans aO))
 refine p au (aj (((ci _ _ (sq (fun _ cj=>ae (fun _ ck=>(p mv ?_))))))))
 refine p (bp kn rfl rfl) (p mv (ak ((ck _ _ (aw (lp (fun bo aA wI=> ∃ (i:Nat),(i≤xs.length)∧(Wk dC wI)∧(aA 18= .slice bi xs.length bl)∧(aA 19= .slice bj xs.length bm)∧(aA 107=U (xs.length))∧(aA 108=U i)∧(xs.length - i=bo)) _ ⟨0,(by omega),(Md.refl _ _),rfl,rfl,rfl,rfl,rfl⟩ ?_))))))
 rintro bo aA wI ⟨i,hi,I,dh,di,df,dg,rfl⟩
 refine fx 18 dh (fx 19 di (fx 107 df (fx 108 dg (ae (fun _ cn=>(p (lt rfl rfl) (ak ((cn _ _ (sq (fun _ co=>cd rfl (fun c2=> ?_) (fun c2=> ?_))))))))))))
 refine aE (tn (co _ _ (sq (fun _ aI=>aw (ae (fun _ cp=>(ag (U i) (p (bD (U i) rfl) ?_))))))))
 refine ak ((cp _ _ (sq (fun _ cq=> ?_))))
 obtain ⟨x,aD⟩:∃ x,xs[i]? =some x:=⟨_,List.getElem?_eq_getElem (by omega)⟩
 have dv:(xs.map (·.2)).getD i []=x.2:=by rw [List.getD_eq_getElem?_getD,List.getElem?_map,aD]; rfl
 obtain ⟨dW,dk,aZ⟩:=bN.get halx (show i < (xs.map (·.2)).length by rw [List.length_map]; omega)
 obtain ⟨dX,dm,a0⟩:=bN.get c1 (show i < (xs.map (·.2)).length by rw [List.length_map]; omega)
 rw [dv] at aZ a0
 have hsa:=aZ.slice
 have hsb:=a0.slice
 obtain ⟨bd,bk,dl⟩:=hsa
 obtain ⟨bg,cb,dn⟩:=hsb
 subst dl dn
 have bZ:(xs.zip vx)[i]? =some (x,.slice bd x.2.length bk):=List.getElem?_zip_eq_some.2 ⟨aD,dk⟩
 have b0:(xs.zip dA)[i]? =some (x,.slice bg x.2.length cb):=List.getElem?_zip_eq_some.2 ⟨aD,dm⟩
 have s:(fun w'=>Wk wI w') wI.drew:=(Md.refl _ _).drew
 refine bI (fun w'=>Wk wI w') rfl wide s (bf 0 rfl (.slice bi xs.length bl) s (bf 1 rfl (U i) s (aM 2 rfl (fun _ _=>aK j9 rfl rfl (by omega) (ao.ok (hCx.wk I) (j8 bZ))) s (aM 3 rfl (fun w' aX=>cR g5 rfl (rfl) (fun j av=>hZ (f:=hU) (m:=2) (fun _=>rfl) (ao.wk (hCx.wk I) aX) bZ j av)) s (bf 4 rfl (.slice bj xs.length bm) s (bf 5 rfl (U i) s (aM 6 rfl (fun _ _=>aK j9 rfl rfl (by omega) (ao.ok (hCy.wk I) (j8 b0))) s ?_)))))))
 refine aM 7 rfl (fun w' aX=>cR g5 rfl (rfl) (fun j av=>hZ (f:=hU) (m:=2) (fun _=>rfl) (ao.wk (hCy.wk I) aX) b0 j av)) s (he 8 rfl (by kernel_rfl) (cl yY (Bg x bd bg bk cb wI.drew (ao.wk (aZ.wk I).bK.2 s) (ao.wk (a0.wk I).bK.2 s) (by have :=(a1 x (List.mem_of_getElem? aD)).2.1; omega)) rfl fun d0 w119 cN=> ?_))
 obtain ⟨rfl,bs⟩:=cN
 have bH:(fun w'=>Wk wI w') w119:=s.trans bs
 refine ⟨bH,?_⟩
 refine aM 9 rfl (fun _ _=>no rfl) bH (hn (by kernel_rfl) (tn (cq _ _ (cf (rfl) (aE (bn (tn (aI _ _ (rg rfl ?_)))))))))
 exact p (ad rfl rfl (bC (by omega))) (p mv (ak ((⟨_,by omega,i+1,(by omega),(I.trans (s.trans bs)),rfl,rfl,rfl,rfl,rfl⟩))))
 refine ext (te _ (te _ (be (tn (cj _ _ (ae (fun _ aI=>(p au ?_))))))))
 exact ak ((aI _ _ (rt (f1 rfl rfl (⟨rfl,aR.trans (hEX.trans I)⟩)))))
theorem Fb (a t:Tx) (w:World) (ha:a.length≤1048576) (cr:t.length≤1048576) (x:Int) (k:Nat) (hk:max 0 (min x ((aC t).length:Nat))=(k:Nat)) (F:aH) (cv:eo a= .ok F) (bd:¬65536 < t.length) (ln er:Nat) (hd:dI F (bA (aC t))= .error (ln,er)) (hkl:¬k < ln):
 aT Tryz.prog 5 (List.toArray [str a,str t,.int .i64 x]) w (fun v w'=>v= .bool true∧Wk w w'):=by
 have aK:k≤(aC t).length:=by omega
 have hllt:=ib t
 have hjl:=qo t
 have hml:=n8 (aC t) k
 refine enter Tryz.func5 rfl Tryz.ntmps5 rfl ?_
 refine ae (fun _ bi=>(aj (((bi _ _ (sq (fun _ bs=>ae (fun _ bv=> ?_))))))))
 refine e (cl lf (lX w) rfl fun c0 w21 b0=> ?_)
 obtain ⟨rfl,hE21⟩:=b0
 refine p (no rfl) (ak ((bv _ _ (cf (rfl) (aE (tn (bs _ _ (ae (fun _ bx=> ?_)))))))))
 refine ag (str t) (e (cl jF (lN t _ cr) rfl fun c1 w25 b1=> ?_))
 obtain ⟨⟨cM,rfl,aa⟩,hE25⟩:=b1
 rw [if_neg bd] at aa
 obtain ⟨J,M,rfl⟩:=cH aa
 refine p mv (p (xt rfl rfl) (p (xt rfl rfl) (p au (aj (((bx _ _ (sq (fun _ bB=> ?_)))))))))
 refine rg rfl (ag (str a) (e (cl fi (ky a w25 (by omega)) rfl fun v30 w30 b2=> ?_)))
 obtain ⟨a6,ax⟩:=b2
 rw [cv] at a6
 obtain ⟨fb,mc,V,cs,hF30,aX,a5⟩:=a6
 subst cs
 refine p mv (p (xt rfl rfl) (p (xt rfl rfl) (e (al fy fun cN w10 hb10 a2 bH=> ?_))))
 have hz10:=a2.size
 have hz30:=ax.size
 refine p au (e (bJ dO rfl rfl rfl rfl (bH) (by simp) fun wt4_7 bW cO=> ?_))
 have hE4:Wk w30 wt4_7:=a2.md.trans' bW (fun q bb h=>by omega)
 have hE4x:=hE21.trans (hE25.trans (ax.trans hE4))
 refine ak ((bB _ _ (sq (fun _ bC=>ae (fun _ bD=>(p mv (p (dt rfl rfl) (p mv ?_))))))))
 refine gs (t:=35) rfl (fun h=>absurd h (fun h=>h (if_neg bd))) (fun cV=> ?_)
 refine pg rfl rfl rfl mv (pg rfl rfl rfl (e8 km rfl rfl) (p (bc rfl) (ak ((bD _ _ (cf (rfl) (aE (tn (bC _ _ ?_)))))))))
 refine cQ (fun aq c=>(Wk w c)∧(Wk w30 c)∧(bh c.heap J (aC t))∧(aq 2=U k)∧(aq 7= .slice J (aC t).length M)∧(aq 9=aW fb)) ?_ ?_
 refine rg rfl (ag (.int .i64 x) (p mv (p (bp ea rfl rfl) (p (mn rfl rfl) (p (mx rfl rfl) (p au (nl ?_)))))))
 exact tn (⟨hE4x,hE4,(ao.wk (aG aa).2 (ax.trans hE4)),(iv hk),rfl,rfl⟩)
 rintro aq c ⟨aA,aZ,ad,ch,ci,cj⟩
 refine fx 2 ch (fx 7 ci (fx 9 cj ?_))
 refine cQ (fun am wC=> ∃ (A:Option Addr) (C:Nat),(Wk c wC)∧(World.ownsRow wC c.heap.size 9 1 (.slice A (bw (aC t) k).length C) (bw (aC t) k).length ((bw (aC t) k).map str))∧(am 2=U k)∧(am 7= .slice J (aC t).length M)∧(am 9=aW fb)∧(am 11= .slice A (bw (aC t) k).length C)) ?_ ?_
 have s:(fun w'=>Wk c w') c.drew:=(Md.refl _ _).drew
 refine bI (fun w'=>Wk c w') rfl wide s (bf 0 rfl (.slice J (aC t).length M) s (bf 1 rfl (U k) s (aM 2 rfl (fun _ _=>ki bO rfl rfl (by have :=(aG aa).1; omega)) s (bf 6 rfl (.slice J (aC t).length M) s (bf 7 rfl (U k) s (aM 8 rfl (fun _ _=>kj bO rfl rfl (by omega)) s (qi 3 4 rfl rfl (by kernel_rfl) ?_ ?_)))))))
 refine (ap cw ((show World.ownsRow c.drew c.heap.size 9 1 (.slice none 0 0) 0 [] from World.ownsRow_nil _ _ _ _)) rfl (by have :=Md.size s; omega) rfl (bh.take (ao.wk ad s) k) (by rw [List.length_map,List.length_take]; show _=k*1; omega) (il _) (by show (0 +k)*_≤_; omega) (by show 0 +k≤_; omega) fun aP w47 aL aB cx ca=> ?_)
 have hE47:Wk c.drew w47:=aB.mono (fun _ _ h=>by cases h)
 have ho47x:World.ownsRow w47 c.heap.size 9 1 (aP) ((aC t).take k).length (((aC t).take k).map str):=by rw [List.length_take,Nat.min_eq_left aK]; simpa using aL
 have Z:(fun w'=>Wk c w') w47:=Md.trans s hE47
 refine ⟨Z,?_⟩
 refine he 4 rfl (by kernel_rfl) (g7 cw (L:= [str [],str [35,32,51,32,120,47,65],str [9]]) rfl rfl rfl rfl fun ar w48 hb48 ac av=> ?_)
 have hOwn:=aJ ho47x ac.md
 have hSrc:=ao.dz (show ba w48.heap ar [str [],str [35,32,51,32,120,47,65],str [9]] from ⟨_,av⟩)
 have aI:c.heap.size≤w48.heap.size:=by have :=Md.size Z; have :=ac.size; omega
 have G:(fun w'=>Wk c w') w48:=Md.trans Z ac.md
 refine ⟨G,?_⟩
 refine he 5 rfl (by kernel_rfl) (ap cw (hOwn) rfl (aI) rfl (hSrc) (rfl) (rfl) (by rw [List.length_take]; omega) (by rw [List.length_take]; omega) fun aQ w49 aN aD cy cc=> ?_)
 have ah:World.ownsRow w49 c.heap.size 9 1 (aQ) ((aC t).take k++cC).length (((aC t).take k++cC).map str):=by rw [List.length_append,List.map_append]; exact aN
 have E:(fun w'=>Wk c w') w49:=Wk.own G hOwn aD (Nat.le_refl _)
 refine ⟨E,?_⟩
 refine he 9 rfl (by kernel_rfl) (ap cw (ah) rfl (by have :=Md.size E; omega) rfl (bh.drop (k:=k) (ao.wk ad E) (aG aa).1) (by rw [List.length_map,List.length_drop]; show _=(_ - k)*1; omega) (il _) (by show ((_:Nat)+(_ - k))*_≤_; rw [List.length_append,List.length_take]; have :cC.length=3:=rfl; omega) (by show (_:Nat)+(_ - k)≤_; rw [List.length_append,List.length_take]; have :cC.length=3:=rfl; omega) fun aR w53 aO aF cz ce=> ?_)
 have ai:World.ownsRow w53 c.heap.size 9 1 (aR) ((bw (aC t) k)).length (((bw (aC t) k)).map str):=by
  have e:(bw (aC t) k).length=((aC t).take k++cC).length+((aC t).length - k):=by unfold bw; simp only [List.length_append,List.length_drop]
  rw [e]; unfold bw; rw [List.map_append]; exact aO
 have I:(fun w'=>Wk c w') w53:=Wk.own E ah aF (Nat.le_refl _)
 refine ⟨I,?_⟩
 refine aM 10 rfl (fun _ _=>au) I (hn (by kernel_rfl) (tn ?_))
 obtain ⟨A,C,rfl⟩:=cH ai
 exact ⟨A,C,I,ai,rfl,rfl,rfl,rfl⟩
 refine (g7 cw (L:= [str [],str [35,32,51,32,120,47,65],str [9]]) rfl rfl rfl rfl fun ar w48 hb48 ac av=> ?_)
 have G:(fun w'=>Wk c w') w48:=Md.trans s ac.md
 refine ⟨G,?_⟩
 refine he 3 rfl (by kernel_rfl) (ap cw ((show World.ownsRow w48 c.heap.size 9 1 (.slice none 0 0) 0 [] from World.ownsRow_nil _ _ _ _)) rfl (by have :=Md.size G; omega) rfl (bh.take (ao.wk ad G) k) (by rw [List.length_map,List.length_take]; show _=k*1; omega) (il _) (by show (0 +k)*_≤_; omega) (by show 0 +k≤_; omega) fun aP w47 aL aB cx ca=> ?_)
 have hE47:Wk w48 w47:=aB.mono (fun _ _ h=>by cases h)
 have ho47x:World.ownsRow w47 c.heap.size 9 1 (aP) ((aC t).take k).length (((aC t).take k).map str):=by rw [List.length_take,Nat.min_eq_left aK]; simpa using aL
 have hOwn:=ho47x
 have hSrc:=ao.dz (show ba w47.heap ar [str [],str [35,32,51,32,120,47,65],str [9]] from ⟨_,Wk.aw hE47 av⟩)
 have aI:c.heap.size≤w47.heap.size:=by have :=Md.size G; have :=Md.size hE47; omega
 have Z:(fun w'=>Wk c w') w47:=Md.trans G hE47
 refine ⟨Z,?_⟩
 refine he 5 rfl (by kernel_rfl) (ap cw (hOwn) rfl (aI) rfl (hSrc) (rfl) (rfl) (by rw [List.length_take]; omega) (by rw [List.length_take]; omega) fun aQ w49 aN aD cy cc=> ?_)
 have ah:World.ownsRow w49 c.heap.size 9 1 (aQ) ((aC t).take k++cC).length (((aC t).take k++cC).map str):=by rw [List.length_append,List.map_append]; exact aN
 have E:(fun w'=>Wk c w') w49:=Wk.own Z hOwn aD (Nat.le_refl _)
 refine ⟨E,?_⟩
 refine he 9 rfl (by kernel_rfl) (ap cw (ah) rfl (by have :=Md.size E; omega) rfl (bh.drop (k:=k) (ao.wk ad E) (aG aa).1) (by rw [List.length_map,List.length_drop]; show _=(_ - k)*1; omega) (il _) (by show ((_:Nat)+(_ - k))*_≤_; rw [List.length_append,List.length_take]; have :cC.length=3:=rfl; omega) (by show (_:Nat)+(_ - k)≤_; rw [List.length_append,List.length_take]; have :cC.length=3:=rfl; omega) fun aR w53 aO aF cz ce=> ?_)
 have ai:World.ownsRow w53 c.heap.size 9 1 (aR) ((bw (aC t) k)).length (((bw (aC t) k)).map str):=by
  have e:(bw (aC t) k).length=((aC t).take k++cC).length+((aC t).length - k):=by unfold bw; simp only [List.length_append,List.length_drop]
  rw [e]; unfold bw; rw [List.map_append]; exact aO
 have I:(fun w'=>Wk c w') w53:=Wk.own E ah aF (Nat.le_refl _)
 refine ⟨I,?_⟩
 refine aM 10 rfl (fun _ _=>au) I (hn (by kernel_rfl) (tn ?_))
 obtain ⟨A,C,rfl⟩:=cH ai
 exact ⟨A,C,I,ai,rfl,rfl,rfl,rfl⟩
 rintro am wC ⟨A,C,Y,ho11,cm,cn,co,ck⟩
 refine fx 2 cm (fx 7 cn (fx 9 co (fx 11 ck (ae (fun _ bE=>(ag (.slice J (aC t).length M) (e (cl lg (lG J M (aC t) wC (ao.wk ad Y) (by omega) (by omega)) rfl fun c2 cF b3=> ?_))))))))
 obtain ⟨rfl,O⟩:=b3
 refine ag (.slice A (bw (aC t) k).length C) (e (cl lg (lG A C (bw (aC t) k) cF (ao.wk (aG ho11).2 O) (by omega) (by omega)) rfl fun c3 cG b4=> ?_))
 obtain ⟨rfl,hE57⟩:=b4
 refine p au (aj (((bE _ _ (sq (fun _ bF=>ae (fun _ aU=>(p mv ?_))))))))
 refine p (bY u9 rfl rfl) (p (gt rfl rfl) (p mv (gs (t:=61) rfl (fun hsz=> ?_) (fun hsz=> ?_))))
 refine sk rfl rfl rfl rfl (sk rfl rfl rfl rfl (p (bz rfl) (ak ((aU _ _ (ct rfl (ae (fun _ ab=> ?_))))))))
 exact aj (((ab _ _ (rt (tr (f1 rfl rfl (⟨rfl,aA.trans (Y.trans (O.trans hE57))⟩)))))))
 refine pg rfl rfl rfl mv (eg rfl rfl rfl (cl nw (n7 (bA (aC t)) cG) rfl fun c4 cI b5=> ?_))
 obtain ⟨rfl,an⟩:=b5
 refine p (bc rfl) (ak ((aU _ _ (cb rfl (fun a9=> ?_) (fun a9=> ?_)))))
 refine ae (fun _ ab=>(aj (((ab _ _ (rt (tr (f1 rfl rfl ?_))))))))
 exact ⟨rfl,aA.trans (Y.trans (O.trans (hE57.trans an)))⟩
 refine aE (tn (bF _ _ (ae (fun _ ab=>(ag (aW fb) (p mv (e (cl fj (kM w25.heap.size fb mc F V (bA (aC t)) cI (hF30.wk (aZ.trans (Y.trans (O.trans (hE57.trans an))))) aX a5 (by omega)) rfl fun cA w68 b6=> ?_))))))))
 obtain ⟨a7,ay⟩:=b6
 rw [hd] at a7
 have cu:cA=_:=a7
 subst cu
 refine p mv (p (xt rfl rfl) (p (xt rfl rfl) (e (al fy fun b15 w15 cP a3 bM=> ?_))))
 have hz15:=a3.size
 have hz68:=ay.size
 refine p au (e (bJ dO rfl rfl rfl rfl (bM) (by simp) fun wt12_8 a0 bK=> ?_))
 have hE12:Wk w68 wt12_8:=a3.md.trans' a0 (fun q bb h=>by omega)
 have hz12:=a0.size
 have bN:ba wt12_8.heap b15 [.int .i64 2,U ln,U er]:=bK
 refine ak ((ab _ _ (ae (fun _ bj=>(ag (aW fb) (p mv (e (cl fj (kM w25.heap.size fb mc F V (bA (bw (aC t) k)) wt12_8 (hF30.wk (aZ.trans (Y.trans (O.trans (hE57.trans (an.trans (ay.trans hE12))))))) aX a5 (by omega)) rfl fun cB cJ b7=> ?_))))))))
 obtain ⟨a8,az⟩:=b7
 rw [qU aK (by omega) a9,hd] at a8
 have bg:cB= .tuple #[.pointer none,oV (jR k ln) er]:=a8
 rw [show jR k ln=ln from if_neg hkl] at bg
 subst bg
 refine p mv (p (xt rfl rfl) (p (xt rfl rfl) (e (al fy fun bG w17 hb17 a4 hB17=> ?_))))
 have hz17:=a4.size
 have hz74:=az.size
 refine p au (e (bJ dO rfl rfl rfl rfl (hB17) (by simp) fun wt13_8 a1 bL=> ?_))
 have aY:Wk cJ wt13_8:=a4.md.trans' a1 (fun q bb h=>by omega)
 have hz13:=a1.size
 have bP:ba wt13_8.heap bG [.int .i64 2,U ln,U er]:=bL
 have hB15y:=Wk.B (az.trans aY) bN
 have hEZ:=Y.trans (O.trans (hE57.trans (an.trans (ay.trans (hE12.trans (az.trans aY))))))
 refine ak ((bj _ _ (sq (fun _ bk=>ae (fun _ bl=>(p (fa mz rfl) (p (ld dN rfl (hB15y.bS 1)) (ag (U k) ?_))))))))
 refine p (gt rfl rfl) (ak ((bl _ _ (cd rfl (fun h=>absurd h (by omega)) (fun cU=> ?_)))))
 refine aE (tn (bk _ _ (sq (fun _ bm=>ae (fun _ bn=>(p mv (p (e8 iN rfl rfl) (p mv ?_))))))))
 refine p (e8 iN rfl rfl) (p (qC u4 rfl rfl) (p mv (gs (t:=90) rfl (fun h=>absurd h (fun h=>h rfl)) (fun cW=> ?_))))
 refine pg rfl rfl rfl (cR fE rfl (rfl) (fun j cg=>hB15y.bS j)) (pg rfl rfl rfl (cR fE rfl (rfl) (fun j cg=>bP.bS j)) (pg rfl rfl rfl (n9 rfl rfl) (p (bc rfl) (p mv (gs (t:=95) rfl (fun h=>absurd h (fun h=>h ⟨rfl,rfl,rfl⟩)) (fun cX=> ?_))))))
 refine pg rfl rfl rfl mv (eg rfl rfl rfl (cl kI (nL wt13_8) rfl fun c5 w97 b8=> ?_))
 obtain ⟨rfl,bT⟩:=b8
 refine pg rfl rfl rfl mv (eg rfl rfl rfl (cl kI (nL w97) rfl fun c6 cK b9=> ?_))
 obtain ⟨rfl,bU⟩:=b9
 refine pg rfl rfl rfl (dt rfl rfl) (p (bc rfl) (ak ((bn _ _ (cd rfl (fun h=>absurd h (fun h=>h rfl)) (fun cS=> ?_))))))
 refine aE (tn (bm _ _ (ae (fun _ bo=>(p mv (e (cl kH (nJ cK) rfl fun cY cD bX=> ?_)))))))
 obtain ⟨rfl,bQ⟩:=bX
 refine p mv (e (cl kH (nJ cD) rfl fun cZ cE bZ=> ?_))
 obtain ⟨rfl,bR⟩:=bZ
 have hEX:=hEZ.trans (bT.trans (bU.trans (bQ.trans bR)))
 refine p au (aj (((bo _ _ (sq (fun _ bq=>ae (fun _ br=>(p mv ?_))))))))
 refine p (bp kn rfl rfl) (p mv (ak ((br _ _ (aw (lp (fun aV aS wI=> ∃ (i:Nat),(i=0)∧(Wk cE wI)∧(aS 107= .int .i64 0)∧(aS 108=U i)∧(0 - i=aV)) _ ⟨0,rfl,(Md.refl _ _),rfl,rfl,rfl⟩ ?_))))))
 rintro aV aS wI ⟨i,hi,bV,cp,cq,rfl⟩
 refine fx 107 cp (fx 108 cq (ae (fun _ bt=>(p (lt rfl rfl) (ak ((bt _ _ (sq (fun _ cL=>cd rfl (fun h=>absurd h (by omega)) (fun cT=> ?_))))))))))
 refine ext (te _ (te _ (be (tn (bq _ _ (ae (fun _ bu=>(p au ?_))))))))
 exact ak ((bu _ _ (rt (f1 rfl rfl (⟨rfl,aA.trans (hEX.trans bV)⟩)))))
theorem Fc (a t:Tx) (w:World) (ha:a.length≤1048576) (cB:t.length≤1048576) (x:Int) (k:Nat) (hk:max 0 (min x ((aC t).length:Nat))=(k:Nat)) (F:aH) (cF:eo a= .ok F) (bk:¬65536 < t.length) (ln er:Nat) (hd:dI F (bA (aC t))= .error (ln,er)) (hkl:k < ln):
 aT Tryz.prog 5 (List.toArray [str a,str t,.int .i64 x]) w (fun v w'=>v= .bool true∧Wk w w'):=by
 have aL:k≤(aC t).length:=by omega
 have hllt:=ib t
 have hjl:=qo t
 have hml:=n8 (aC t) k
 refine enter Tryz.func5 rfl Tryz.ntmps5 rfl ?_
 refine ae (fun _ bm=>(aj (((bm _ _ (sq (fun _ bx=>ae (fun _ bD=> ?_))))))))
 refine e (cl lf (lX w) rfl fun c9 w21 b8=> ?_)
 obtain ⟨rfl,hE21⟩:=b8
 refine p (no rfl) (ak ((bD _ _ (cf (rfl) (aE (tn (bx _ _ (ae (fun _ bE=> ?_)))))))))
 refine ag (str t) (e (cl jF (lN t _ cB) rfl fun da w25 b9=> ?_))
 obtain ⟨⟨cX,rfl,aa⟩,hE25⟩:=b9
 rw [if_neg bk] at aa
 obtain ⟨O,Y,rfl⟩:=cH aa
 refine p mv (p (xt rfl rfl) (p (xt rfl rfl) (p au (aj (((bE _ _ (sq (fun _ bF=> ?_)))))))))
 refine rg rfl (ag (str a) (e (cl fi (ky a w25 (by omega)) rfl fun v30 w30 ca=> ?_)))
 obtain ⟨bb,ay⟩:=ca
 rw [cF] at bb
 obtain ⟨fb,mc,V,cD,hF30,a0,a9⟩:=bb
 subst cD
 refine p mv (p (xt rfl rfl) (p (xt rfl rfl) (e (al fy fun cY w10 hb10 a6 bM=> ?_))))
 have hz10:=a6.size
 have hz30:=ay.size
 refine p au (e (bJ dO rfl rfl rfl rfl (bM) (by simp) fun wt4_7 b5 cZ=> ?_))
 have hE4:Wk w30 wt4_7:=a6.md.trans' b5 (fun q aR h=>by omega)
 have hE4x:=hE21.trans (hE25.trans (ay.trans hE4))
 refine ak ((bF _ _ (sq (fun _ bG=>ae (fun _ bH=>(p mv (p (dt rfl rfl) (p mv ?_))))))))
 refine gs (t:=35) rfl (fun h=>absurd h (fun h=>h (if_neg bk))) (fun c4=> ?_)
 refine pg rfl rfl rfl mv (pg rfl rfl rfl (e8 km rfl rfl) (p (bc rfl) (ak ((bH _ _ (cf (rfl) (aE (tn (bG _ _ ?_)))))))))
 refine cQ (fun aq c=>(Wk w c)∧(Wk w30 c)∧(bh c.heap O (aC t))∧(aq 2=U k)∧(aq 7= .slice O (aC t).length Y)∧(aq 9=aW fb)) ?_ ?_
 refine rg rfl (ag (.int .i64 x) (p mv (p (bp ea rfl rfl) (p (mn rfl rfl) (p (mx rfl rfl) (p au (nl ?_)))))))
 exact tn (⟨hE4x,hE4,(ao.wk (aG aa).2 (ay.trans hE4)),(iv hk),rfl,rfl⟩)
 rintro aq c ⟨aB,a2,ah,cq,cr,cs⟩
 refine fx 2 cq (fx 7 cr (fx 9 cs ?_))
 refine cQ (fun an wC=> ∃ (A:Option Addr) (C:Nat),(Wk c wC)∧(World.ownsRow wC c.heap.size 9 1 (.slice A (bw (aC t) k).length C) (bw (aC t) k).length ((bw (aC t) k).map str))∧(an 2=U k)∧(an 7= .slice O (aC t).length Y)∧(an 9=aW fb)∧(an 11= .slice A (bw (aC t) k).length C)) ?_ ?_
 have s:(fun w'=>Wk c w') c.drew:=(Md.refl _ _).drew
 refine bI (fun w'=>Wk c w') rfl wide s (bf 0 rfl (.slice O (aC t).length Y) s (bf 1 rfl (U k) s (aM 2 rfl (fun _ _=>ki bO rfl rfl (by have :=(aG aa).1; omega)) s (bf 6 rfl (.slice O (aC t).length Y) s (bf 7 rfl (U k) s (aM 8 rfl (fun _ _=>kj bO rfl rfl (by omega)) s (qi 3 4 rfl rfl (by kernel_rfl) ?_ ?_)))))))
 refine (ap cw ((show World.ownsRow c.drew c.heap.size 9 1 (.slice none 0 0) 0 [] from World.ownsRow_nil _ _ _ _)) rfl (by have :=Md.size s; omega) rfl (bh.take (ao.wk ah s) k) (by rw [List.length_map,List.length_take]; show _=k*1; omega) (il _) (by show (0 +k)*_≤_; omega) (by show 0 +k≤_; omega) fun aS w47 aN aD cG cm=> ?_)
 have hE47:Wk c.drew w47:=aD.mono (fun _ _ h=>by cases h)
 have ho47x:World.ownsRow w47 c.heap.size 9 1 (aS) ((aC t).take k).length (((aC t).take k).map str):=by rw [List.length_take,Nat.min_eq_left aL]; simpa using aN
 have Z:(fun w'=>Wk c w') w47:=Md.trans s hE47
 refine ⟨Z,?_⟩
 refine he 4 rfl (by kernel_rfl) (g7 cw (L:= [str [],str [35,32,51,32,120,47,65],str [9]]) rfl rfl rfl rfl fun av w48 hb48 ad ax=> ?_)
 have hOwn:=aJ ho47x ad.md
 have hSrc:=ao.dz (show ba w48.heap av [str [],str [35,32,51,32,120,47,65],str [9]] from ⟨_,ax⟩)
 have aK:c.heap.size≤w48.heap.size:=by have :=Md.size Z; have :=ad.size; omega
 have G:(fun w'=>Wk c w') w48:=Md.trans Z ad.md
 refine ⟨G,?_⟩
 refine he 5 rfl (by kernel_rfl) (ap cw (hOwn) rfl (aK) rfl (hSrc) (rfl) (rfl) (by rw [List.length_take]; omega) (by rw [List.length_take]; omega) fun aU w49 aP aF cI cn=> ?_)
 have ai:World.ownsRow w49 c.heap.size 9 1 (aU) ((aC t).take k++cC).length (((aC t).take k++cC).map str):=by rw [List.length_append,List.map_append]; exact aP
 have E:(fun w'=>Wk c w') w49:=Wk.own G hOwn aF (Nat.le_refl _)
 refine ⟨E,?_⟩
 refine he 9 rfl (by kernel_rfl) (ap cw (ai) rfl (by have :=Md.size E; omega) rfl (bh.drop (k:=k) (ao.wk ah E) (aG aa).1) (by rw [List.length_map,List.length_drop]; show _=(_ - k)*1; omega) (il _) (by show ((_:Nat)+(_ - k))*_≤_; rw [List.length_append,List.length_take]; have :cC.length=3:=rfl; omega) (by show (_:Nat)+(_ - k)≤_; rw [List.length_append,List.length_take]; have :cC.length=3:=rfl; omega) fun aV w53 aQ aI cJ co=> ?_)
 have am:World.ownsRow w53 c.heap.size 9 1 (aV) ((bw (aC t) k)).length (((bw (aC t) k)).map str):=by
  have e:(bw (aC t) k).length=((aC t).take k++cC).length+((aC t).length - k):=by unfold bw; simp only [List.length_append,List.length_drop]
  rw [e]; unfold bw; rw [List.map_append]; exact aQ
 have M:(fun w'=>Wk c w') w53:=Wk.own E ai aI (Nat.le_refl _)
 refine ⟨M,?_⟩
 refine aM 10 rfl (fun _ _=>au) M (hn (by kernel_rfl) (tn ?_))
 obtain ⟨A,C,rfl⟩:=cH am
 exact ⟨A,C,M,am,rfl,rfl,rfl,rfl⟩
 refine (g7 cw (L:= [str [],str [35,32,51,32,120,47,65],str [9]]) rfl rfl rfl rfl fun av w48 hb48 ad ax=> ?_)
 have G:(fun w'=>Wk c w') w48:=Md.trans s ad.md
 refine ⟨G,?_⟩
 refine he 3 rfl (by kernel_rfl) (ap cw ((show World.ownsRow w48 c.heap.size 9 1 (.slice none 0 0) 0 [] from World.ownsRow_nil _ _ _ _)) rfl (by have :=Md.size G; omega) rfl (bh.take (ao.wk ah G) k) (by rw [List.length_map,List.length_take]; show _=k*1; omega) (il _) (by show (0 +k)*_≤_; omega) (by show 0 +k≤_; omega) fun aS w47 aN aD cG cm=> ?_)
 have hE47:Wk w48 w47:=aD.mono (fun _ _ h=>by cases h)
 have ho47x:World.ownsRow w47 c.heap.size 9 1 (aS) ((aC t).take k).length (((aC t).take k).map str):=by rw [List.length_take,Nat.min_eq_left aL]; simpa using aN
 have hOwn:=ho47x
 have hSrc:=ao.dz (show ba w47.heap av [str [],str [35,32,51,32,120,47,65],str [9]] from ⟨_,Wk.aw hE47 ax⟩)
 have aK:c.heap.size≤w47.heap.size:=by have :=Md.size G; have :=Md.size hE47; omega
 have Z:(fun w'=>Wk c w') w47:=Md.trans G hE47
 refine ⟨Z,?_⟩
 refine he 5 rfl (by kernel_rfl) (ap cw (hOwn) rfl (aK) rfl (hSrc) (rfl) (rfl) (by rw [List.length_take]; omega) (by rw [List.length_take]; omega) fun aU w49 aP aF cI cn=> ?_)
 have ai:World.ownsRow w49 c.heap.size 9 1 (aU) ((aC t).take k++cC).length (((aC t).take k++cC).map str):=by rw [List.length_append,List.map_append]; exact aP
 have E:(fun w'=>Wk c w') w49:=Wk.own Z hOwn aF (Nat.le_refl _)
 refine ⟨E,?_⟩
 refine he 9 rfl (by kernel_rfl) (ap cw (ai) rfl (by have :=Md.size E; omega) rfl (bh.drop (k:=k) (ao.wk ah E) (aG aa).1) (by rw [List.length_map,List.length_drop]; show _=(_ - k)*1; omega) (il _) (by show ((_:Nat)+(_ - k))*_≤_; rw [List.length_append,List.length_take]; have :cC.length=3:=rfl; omega) (by show (_:Nat)+(_ - k)≤_; rw [List.length_append,List.length_take]; have :cC.length=3:=rfl; omega) fun aV w53 aQ aI cJ co=> ?_)
 have am:World.ownsRow w53 c.heap.size 9 1 (aV) ((bw (aC t) k)).length (((bw (aC t) k)).map str):=by
  have e:(bw (aC t) k).length=((aC t).take k++cC).length+((aC t).length - k):=by unfold bw; simp only [List.length_append,List.length_drop]
  rw [e]; unfold bw; rw [List.map_append]; exact aQ
 have M:(fun w'=>Wk c w') w53:=Wk.own E ai aI (Nat.le_refl _)
 refine ⟨M,?_⟩
 refine aM 10 rfl (fun _ _=>au) M (hn (by kernel_rfl) (tn ?_))
 obtain ⟨A,C,rfl⟩:=cH am
 exact ⟨A,C,M,am,rfl,rfl,rfl,rfl⟩
 rintro an wC ⟨A,C,J,ho11,cv,cx,cy,cu⟩
 refine fx 2 cv (fx 7 cx (fx 9 cy (fx 11 cu (ae (fun _ bK=>(ag (.slice O (aC t).length Y) (e (cl lg (lG O Y (aC t) wC (ao.wk ah J) (by omega) (by omega)) rfl fun db cO cc=> ?_))))))))
 obtain ⟨rfl,I⟩:=cc
 refine ag (.slice A (bw (aC t) k).length C) (e (cl lg (lG A C (bw (aC t) k) cO (ao.wk (aG ho11).2 I) (by omega) (by omega)) rfl fun dc cP ce=> ?_))
 obtain ⟨rfl,hE57⟩:=ce
 refine p au (aj (((bK _ _ (sq (fun _ bL=>ae (fun _ aY=>(p mv ?_))))))))
 refine p (bY u9 rfl rfl) (p (gt rfl rfl) (p mv (gs (t:=61) rfl (fun hsz=> ?_) (fun hsz=> ?_))))
 refine sk rfl rfl rfl rfl (sk rfl rfl rfl rfl (p (bz rfl) (ak ((aY _ _ (ct rfl (ae (fun _ ab=> ?_))))))))
 exact aj (((ab _ _ (rt (tr (f1 rfl rfl (⟨rfl,aB.trans (J.trans (I.trans hE57))⟩)))))))
 refine pg rfl rfl rfl mv (eg rfl rfl rfl (cl nw (n7 (bA (aC t)) cP) rfl fun dd cS cg=> ?_))
 obtain ⟨rfl,ac⟩:=cg
 refine p (bc rfl) (ak ((aY _ _ (cb rfl (fun bj=> ?_) (fun bj=> ?_)))))
 refine ae (fun _ ab=>(aj (((ab _ _ (rt (tr (f1 rfl rfl ?_))))))))
 exact ⟨rfl,aB.trans (J.trans (I.trans (hE57.trans ac)))⟩
 refine aE (tn (bL _ _ (ae (fun _ ab=>(ag (aW fb) (p mv (e (cl fj (kM w25.heap.size fb mc F V (bA (aC t)) cS (hF30.wk (a2.trans (J.trans (I.trans (hE57.trans ac))))) a0 a9 (by omega)) rfl fun cK w68 ch=> ?_))))))))
 obtain ⟨bg,az⟩:=ch
 rw [hd] at bg
 have cE:cK=_:=bg
 subst cE
 refine p mv (p (xt rfl rfl) (p (xt rfl rfl) (e (al fy fun b15 w15 c0 a7 bQ=> ?_))))
 have hz15:=a7.size
 have hz68:=az.size
 refine p au (e (bJ dO rfl rfl rfl rfl (bQ) (by simp) fun wt12_8 a3 bN=> ?_))
 have hE12:Wk w68 wt12_8:=a7.md.trans' a3 (fun q aR h=>by omega)
 have hz12:=a3.size
 have bT:ba wt12_8.heap b15 [.int .i64 2,U ln,U er]:=bN
 refine ak ((ab _ _ (ae (fun _ bn=>(ag (aW fb) (p mv (e (cl fj (kM w25.heap.size fb mc F V (bA (bw (aC t) k)) wt12_8 (hF30.wk (a2.trans (J.trans (I.trans (hE57.trans (ac.trans (az.trans hE12))))))) a0 a9 (by omega)) rfl fun cL cT ci=> ?_))))))))
 obtain ⟨bi,aA⟩:=ci
 rw [qU aL (by omega) bj,hd] at bi
 have bl:cL= .tuple #[.pointer none,oV (jR k ln) er]:=bi
 rw [show jR k ln=ln+3 from if_pos hkl] at bl
 subst bl
 refine p mv (p (xt rfl rfl) (p (xt rfl rfl) (e (al fy fun ar w17 hb17 a8 hB17=> ?_))))
 have hz17:=a8.size
 have hz74:=aA.size
 refine p au (e (bJ dO rfl rfl rfl rfl (hB17) (by simp) fun wt13_8 a4 bP=> ?_))
 have a1:Wk cT wt13_8:=a8.md.trans' a4 (fun q aR h=>by omega)
 have hz13:=a4.size
 have bW:ba wt13_8.heap ar [.int .i64 2,U (ln+3),U er]:=bP
 have hB15y:=Wk.B (aA.trans a1) bT
 have hEZ:=J.trans (I.trans (hE57.trans (ac.trans (az.trans (hE12.trans (aA.trans a1))))))
 refine ak ((bn _ _ (sq (fun _ bo=>ae (fun _ bq=>(p (fa mz rfl) (p (ld dN rfl (hB15y.bS 1)) (ag (U k) ?_))))))))
 refine p (gt rfl rfl) (ak ((bq _ _ (cd rfl (fun c3=> ?_) (fun h=>absurd (by omega) h)))))
 have hin:=(BM hd (by omega)).1
 have hlo:=ib (bA (aC t))
 refine rg rfl (p (fa mz rfl) (p (ld dN rfl (hB15y.bS 1)) (p (bd ((ln+3:Nat):Int) rfl rfl (aO (by omega) (by omega))) (p (fa mz rfl) (e (st iD rfl rfl (rfl) (hB15y) (by simp) fun wt15_4 a5 bR=> ?_))))))
 have bU:ba wt15_4.heap b15 [.int .i64 2,U (ln+3),U er]:=bR
 obtain ⟨cV,bV⟩:=bW
 have bX:ba wt15_4.heap ar [.int .i64 2,U (ln+3),U er]:=⟨cV,a5.aw bV (fun h=>by have h:ar=b15:=h; omega)⟩
 have b4:Wk c wt15_4:=Md.trans' hEZ a5 (fun q aR h=>by have :=Md.size J; have :=I.size; have :=hE57.size; have :=ac.size; omega)
 refine ak ((bo _ _ (sq (fun _ br=>ae (fun _ bs=>(p mv (p (e8 iN rfl rfl) (p mv ?_))))))))
 refine p (e8 iN rfl rfl) (p (qC u4 rfl rfl) (p mv (gs (t:=90) rfl (fun h=>absurd h (fun h=>h rfl)) (fun c5=> ?_))))
 refine pg rfl rfl rfl (cR fE rfl (rfl) (fun j cp=>bU.bS j)) (pg rfl rfl rfl (cR fE rfl (rfl) (fun j cp=>bX.bS j)) (pg rfl rfl rfl (n9 rfl rfl) (p (bc rfl) (p mv (gs (t:=95) rfl (fun h=>absurd h (fun h=>h ⟨rfl,rfl,rfl⟩)) (fun c6=> ?_))))))
 refine pg rfl rfl rfl mv (eg rfl rfl rfl (cl kI (nL wt15_4) rfl fun de w97 cj=> ?_))
 obtain ⟨rfl,b1⟩:=cj
 refine pg rfl rfl rfl mv (eg rfl rfl rfl (cl kI (nL w97) rfl fun df cU ck=> ?_))
 obtain ⟨rfl,b2⟩:=ck
 refine pg rfl rfl rfl (dt rfl rfl) (p (bc rfl) (ak ((bs _ _ (cd rfl (fun h=>absurd h (fun h=>h rfl)) (fun c1=> ?_))))))
 refine aE (tn (br _ _ (ae (fun _ bt=>(p mv (e (cl kH (nJ cU) rfl fun c7 cM b6=> ?_)))))))
 obtain ⟨rfl,bZ⟩:=b6
 refine p mv (e (cl kH (nJ cM) rfl fun c8 cN b7=> ?_))
 obtain ⟨rfl,b0⟩:=b7
 have hEX:=b4.trans (b1.trans (b2.trans (bZ.trans b0)))
 refine p au (aj (((bt _ _ (sq (fun _ bu=>ae (fun _ bv=>(p mv ?_))))))))
 refine p (bp kn rfl rfl) (p mv (ak ((bv _ _ (aw (lp (fun aZ aX wI=> ∃ (i:Nat),(i=0)∧(Wk cN wI)∧(aX 107= .int .i64 0)∧(aX 108=U i)∧(0 - i=aZ)) _ ⟨0,rfl,(Md.refl _ _),rfl,rfl,rfl⟩ ?_))))))
 rintro aZ aX wI ⟨i,hi,b3,cz,cA,rfl⟩
 refine fx 107 cz (fx 108 cA (ae (fun _ bB=>(p (lt rfl rfl) (ak ((bB _ _ (sq (fun _ cW=>cd rfl (fun h=>absurd h (by omega)) (fun c2=> ?_))))))))))
 refine ext (te _ (te _ (be (tn (bu _ _ (ae (fun _ bC=>(p au ?_))))))))
 exact ak ((bC _ _ (rt (f1 rfl rfl (⟨rfl,aB.trans (hEX.trans b3)⟩)))))
theorem AV (a t:Tx) (x:Int) (w:World) (ha:a.length≤1048576) (i:t.length≤1048576):aT Tryz.prog 5 [str a,str t,.int .i64 x].toArray w (fun v w'=>v= .bool true∧Wk w w'):=by
 obtain ⟨k,hk⟩:∃ k:Nat,max 0 (min x ((aC t).length:Nat))=(k:Nat):=⟨(max 0 (min x ((aC t).length:Nat))).toNat,by omega⟩
 cases hx:eo a with
 | error e=>
   by_cases c:65536 < t.length
   · exact Fe a t w ha i x k hk e.1 e.2 hx c
   · exact Fg a t w ha i x k hk e.1 e.2 hx c
 | ok F=>
   by_cases c:65536 < t.length
   · exact Ff a t w ha i x k hk F hx c
   · cases hd:dI F (bA (aC t)) with
     | ok xs=>exact Fh a t w ha i x k hk F hx c xs hd
     | error e=>
       by_cases hkl:k < e.1
       · exact Fc a t w ha i x k hk F hx c e.1 e.2 hd hkl
       · exact Fb a t w ha i x k hk F hx c e.1 e.2 hd hkl
end Go.Hb.rB
end
