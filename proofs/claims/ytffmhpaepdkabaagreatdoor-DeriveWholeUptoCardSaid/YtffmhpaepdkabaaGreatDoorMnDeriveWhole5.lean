/-
  Walks and plain laws that the law rests on, laid together. No conditions but those that each theorem names.
-/
import Derived.Test.YtffmhpaepdkabaaGreatDoorMnDeriveWhole4
set_option linter.unusedVariables false
set_option maxRecDepth 20000
set_option maxHeartbeats 1000000
open Array renaming getElem?_eq_some_iff→cg
open Bool renaming noConfusion→c8,or_eq_false_iff→nW
open Classical renaming byContradiction→uO,not_not→lf
open Go.Calls renaming mono→kf
open Go.Proofs.Tryz renaming prog→au
open Go.Value renaming agg→bl,bool→bL,int→gA,oneCell'→eH,ownBlock→gh,slice→bz,tuple→iT
open Go.World renaming ownsRow→bm,ownsRow_nil→dI
open Int renaming toNat_natCast→ji
open List renaming all_cons→u4,all_eq_true→kg,append_assoc→dx,append_nil→dS,count_eq_zero→n6,count_le_length→qu,drop_eq_nil_of_le→kL,eq_nil_of_length_eq_zero→gi,ext_getElem?→ni,getD_eq_getElem?_getD→cO,getElem?_append_left→lh,getElem?_append_right→lS,getElem?_cons_zero→vc,getElem?_drop→sw,getElem?_eq_getElem→cx,getElem?_eq_none_iff→F2,getElem?_eq_some_iff→eI,getElem?_map→fU,getElem?_set→jx,getElem?_take→lT,getElem?_zip_eq_some→iJ,length→kM,length_append→bF,length_cons→bT,length_map→eJ,length_nil→gj,length_pos_iff→mB,length_set→sy,length_singleton→iq,length_take→dT,length_zip→vj,map_append→iK,map_cons→nk,mem_cons→eK,mem_cons_self→oY,mem_filter→F7,mem_flatMap→vk,mem_of_getElem?→iL,not_mem_nil→sE,of_mem_zip→Gb,take_of_length_le→eL,toArray→aY
open Nat renaming le_refl→bX,le_trans→eV,lt_or_ge→gC,zero_add→fj
open Prod renaming snd→ll
open Go.Proofs.Tryz
open Go.Hb.dB Go.Proofs Go.Hb.eN Go.Hb.fJ Go.Hb.lW Go.Hb.n9 Go.Hb.fV

namespace Go.Hb
def fF (s:Tx):Option Value:=if s=cY then some (bl #[.int .i64 (4:Nat),.func (.func 135) #[] #[]]) else if s=gX then some (bl #[.int .i64 (4:Nat),.func (.func 135) #[] #[]]) else if s=gV then some (bl #[.int .i64 (2:Nat),.func (.func 134) #[] #[]]) else if s=iD then some (bl #[.int .i64 (2:Nat),.func (.func 133) #[] #[]]) else if s=kA then some (bl #[.int .i64 (2:Nat),.func (.func 132) #[] #[]]) else if s=j4 then some (bl #[.int .i64 (2:Nat),.func (.func 131) #[] #[]]) else if s=jK then some (bl #[.int .i64 (2:Nat),.func (.func 131) #[] #[]]) else if s=jt then some (bl #[.int .i64 (2:Nat),.func (.func 131) #[] #[]]) else if s=jb then some (bl #[.int .i64 (2:Nat),.func (.func 131) #[] #[]]) else if s=iP then some (bl #[.int .i64 (2:Nat),.func (.func 131) #[] #[]]) else if s=iF then some (bl #[.int .i64 (2:Nat),.func (.func 130) #[] #[]]) else if s=ic then some (bl #[.int .i64 (2:Nat),.func (.func 129) #[] #[]]) else if s=gW then some (bl #[.int .i64 (2:Nat),.func (.func 128) #[] #[]]) else none
def zF:Value→Option Value:=fun _=>none
def zG:Tx→Option Value:=fun _=>none
theorem str_inj {a b:Tx} :str a=str b↔a=b:=⟨fun h=>by unfold str at h; cases h; rfl,fun h=>by rw [h]⟩
theorem kE {f:Value→Option Value} {g:Tx→Option Value} {k:Tx} {v:Value} (h:∀ s,f (str s)=g s) (s:Tx):bw f (str k) v (str s)=if s=k then some v else g s:=by
 by_cases hs:s=k
 · subst hs; rw [rL,if_pos rfl]
 · rw [pZ (fun h2=>hs<|str_inj.1 h2),if_neg hs,h s]
theorem MQ (w:World):
 ba au 83 (aY []) w (fun v w'=> ∃ b,v= .map (some b)∧b=w.heap.size∧(∃ f,bQ w'.heap b gv f∧∀ s,f (str s)=fF s)∧Wk w w'):=by
 refine enter func83 aa ntmps83 aa<|ak fun Z=>ay<|Z<|ak fun ab=>e<|rF fun a c bh aL ac=> ?_
 have aM:bQ c.heap a gv zF:=bQ.nil ac
 have bi:∀ s:Tx,zF (str s)=zG s:=fun _=>rfl
 have ad:Wk w c:=aL.md
 refine p (cE (ps:= [(0,aj 2),(1,.func (.func 128) #[] #[])]) (L:= [aj 2,.func (.func 128) #[] #[]]) kH aa<|aa)<|e<|kz kb fZ (aM) aa aa aa (⟨_,aa⟩) fun G aD aS=> ?_
 have a1:bQ G.heap a gv (bw zF (str gW)<|bl #[aj 2,.func (.func 128) #[] #[]]):=aS
 have bj:=kE (k:=gW) (v:=bl #[aj 2,.func (.func 128) #[] #[]]) bi
 have ae:Wk w G:=ad.trans' aD fun k hk h=>by omega
 refine p (cE (ps:= [(0,aj 2),(1,.func (.func 129) #[] #[])]) (L:= [aj 2,.func (.func 129) #[] #[]]) kH aa<|aa)<|e<|kz kb fZ (a1) aa aa aa (⟨_,aa⟩) fun U aI aX=> ?_
 have a2:bQ U.heap a gv (bw (bw zF (str gW)<|bl #[aj 2,.func (.func 128) #[] #[]]) (str ic)<|bl #[aj 2,.func (.func 129) #[] #[]]):=aX
 have bp:=kE (k:=ic) (v:=bl #[aj 2,.func (.func 129) #[] #[]]) bj
 have am:Wk w U:=ae.trans' aI fun k hk h=>by omega
 refine p (cE (ps:= [(0,aj 2),(1,.func (.func 130) #[] #[])]) (L:= [aj 2,.func (.func 130) #[] #[]]) kH aa<|aa)<|e<|kz kb fZ (a2) aa aa aa (⟨_,aa⟩) fun V aJ aZ=> ?_
 have a7:bQ V.heap a gv (bw (bw (bw zF (str gW)<|bl #[aj 2,.func (.func 128) #[] #[]]) (str ic)<|bl #[aj 2,.func (.func 129) #[] #[]]) (str iF)<|bl #[aj 2,.func (.func 130) #[] #[]]):=aZ
 have bq:=kE (k:=iF) (v:=bl #[aj 2,.func (.func 130) #[] #[]]) bp
 have an:Wk w V:=am.trans' aJ fun k hk h=>by omega
 refine p (cE (ps:= [(0,aj 2),(1,.func (.func 131) #[] #[])]) (L:= [aj 2,.func (.func 131) #[] #[]]) kH aa<|aa)<|e<|kz kb fZ (a7) aa aa aa (⟨_,aa⟩) fun Y aK a0=> ?_
 have a8:bQ Y.heap a gv (bw (bw (bw (bw zF (str gW)<|bl #[aj 2,.func (.func 128) #[] #[]]) (str ic)<|bl #[aj 2,.func (.func 129) #[] #[]]) (str iF)<|bl #[aj 2,.func (.func 130) #[] #[]]) (str iP)<|bl #[aj 2,.func (.func 131) #[] #[]]):=a0
 have br:=kE (k:=iP) (v:=bl #[aj 2,.func (.func 131) #[] #[]]) bq
 have ao:Wk w Y:=an.trans' aK fun k hk h=>by omega
 refine p (cE (ps:= [(0,aj 2),(1,.func (.func 131) #[] #[])]) (L:= [aj 2,.func (.func 131) #[] #[]]) kH aa<|aa)<|e<|kz kb fZ (a8) aa aa aa (⟨_,aa⟩) fun i ax aN=> ?_
 have a9:bQ i.heap a gv (bw (bw (bw (bw (bw zF (str gW)<|bl #[aj 2,.func (.func 128) #[] #[]]) (str ic)<|bl #[aj 2,.func (.func 129) #[] #[]]) (str iF)<|bl #[aj 2,.func (.func 130) #[] #[]]) (str iP)<|bl #[aj 2,.func (.func 131) #[] #[]]) (str jb)<|bl #[aj 2,.func (.func 131) #[] #[]]):=aN
 have bs:=kE (k:=jb) (v:=bl #[aj 2,.func (.func 131) #[] #[]]) br
 have ap:Wk w i:=ao.trans' ax fun k hk h=>by omega
 refine p (cE (ps:= [(0,aj 2),(1,.func (.func 131) #[] #[])]) (L:= [aj 2,.func (.func 131) #[] #[]]) kH aa<|aa)<|e<|kz kb fZ (a9) aa aa aa (⟨_,aa⟩) fun q az aO=> ?_
 have bb:bQ q.heap a gv (bw (bw (bw (bw (bw (bw zF (str gW)<|bl #[aj 2,.func (.func 128) #[] #[]]) (str ic)<|bl #[aj 2,.func (.func 129) #[] #[]]) (str iF)<|bl #[aj 2,.func (.func 130) #[] #[]]) (str iP)<|bl #[aj 2,.func (.func 131) #[] #[]]) (str jb)<|bl #[aj 2,.func (.func 131) #[] #[]]) (str jt)<|bl #[aj 2,.func (.func 131) #[] #[]]):=aO
 have bt:=kE (k:=jt) (v:=bl #[aj 2,.func (.func 131) #[] #[]]) bs
 have aq:Wk w q:=ap.trans' az fun k hk h=>by omega
 refine p (cE (ps:= [(0,aj 2),(1,.func (.func 131) #[] #[])]) (L:= [aj 2,.func (.func 131) #[] #[]]) kH aa<|aa)<|e<|kz kb fZ (bb) aa aa aa (⟨_,aa⟩) fun A aA aP=> ?_
 have bc:bQ A.heap a gv (bw (bw (bw (bw (bw (bw (bw zF (str gW)<|bl #[aj 2,.func (.func 128) #[] #[]]) (str ic)<|bl #[aj 2,.func (.func 129) #[] #[]]) (str iF)<|bl #[aj 2,.func (.func 130) #[] #[]]) (str iP)<|bl #[aj 2,.func (.func 131) #[] #[]]) (str jb)<|bl #[aj 2,.func (.func 131) #[] #[]]) (str jt)<|bl #[aj 2,.func (.func 131) #[] #[]]) (str jK)<|bl #[aj 2,.func (.func 131) #[] #[]]):=aP
 have bu:=kE (k:=jK) (v:=bl #[aj 2,.func (.func 131) #[] #[]]) bt
 have ar:Wk w A:=aq.trans' aA fun k hk h=>by omega
 refine p (cE (ps:= [(0,aj 2),(1,.func (.func 131) #[] #[])]) (L:= [aj 2,.func (.func 131) #[] #[]]) kH aa<|aa)<|e<|kz kb fZ (bc) aa aa aa (⟨_,aa⟩) fun C aB aQ=> ?_
 have bd:bQ C.heap a gv (bw (bw (bw (bw (bw (bw (bw (bw zF (str gW)<|bl #[aj 2,.func (.func 128) #[] #[]]) (str ic)<|bl #[aj 2,.func (.func 129) #[] #[]]) (str iF)<|bl #[aj 2,.func (.func 130) #[] #[]]) (str iP)<|bl #[aj 2,.func (.func 131) #[] #[]]) (str jb)<|bl #[aj 2,.func (.func 131) #[] #[]]) (str jt)<|bl #[aj 2,.func (.func 131) #[] #[]]) (str jK)<|bl #[aj 2,.func (.func 131) #[] #[]]) (str j4)<|bl #[aj 2,.func (.func 131) #[] #[]]):=aQ
 have bv:=kE (k:=j4) (v:=bl #[aj 2,.func (.func 131) #[] #[]]) bu
 have av:Wk w C:=ar.trans' aB fun k hk h=>by omega
 refine p (cE (ps:= [(0,aj 2),(1,.func (.func 132) #[] #[])]) (L:= [aj 2,.func (.func 132) #[] #[]]) kH aa<|aa)<|e<|kz kb fZ (bd) aa aa aa (⟨_,aa⟩) fun E aC aR=> ?_
 have bf:bQ E.heap a gv (bw (bw (bw (bw (bw (bw (bw (bw (bw zF (str gW)<|bl #[aj 2,.func (.func 128) #[] #[]]) (str ic)<|bl #[aj 2,.func (.func 129) #[] #[]]) (str iF)<|bl #[aj 2,.func (.func 130) #[] #[]]) (str iP)<|bl #[aj 2,.func (.func 131) #[] #[]]) (str jb)<|bl #[aj 2,.func (.func 131) #[] #[]]) (str jt)<|bl #[aj 2,.func (.func 131) #[] #[]]) (str jK)<|bl #[aj 2,.func (.func 131) #[] #[]]) (str j4)<|bl #[aj 2,.func (.func 131) #[] #[]]) (str kA)<|bl #[aj 2,.func (.func 132) #[] #[]]):=aR
 have bx:=kE (k:=kA) (v:=bl #[aj 2,.func (.func 132) #[] #[]]) bv
 have aw:Wk w E:=av.trans' aC fun k hk h=>by omega
 refine p (cE (ps:= [(0,aj 2),(1,.func (.func 133) #[] #[])]) (L:= [aj 2,.func (.func 133) #[] #[]]) kH aa<|aa)<|e<|kz kb fZ (bf) aa aa aa (⟨_,aa⟩) fun I aE aT=> ?_
 have bg:bQ I.heap a gv (bw (bw (bw (bw (bw (bw (bw (bw (bw (bw zF (str gW)<|bl #[aj 2,.func (.func 128) #[] #[]]) (str ic)<|bl #[aj 2,.func (.func 129) #[] #[]]) (str iF)<|bl #[aj 2,.func (.func 130) #[] #[]]) (str iP)<|bl #[aj 2,.func (.func 131) #[] #[]]) (str jb)<|bl #[aj 2,.func (.func 131) #[] #[]]) (str jt)<|bl #[aj 2,.func (.func 131) #[] #[]]) (str jK)<|bl #[aj 2,.func (.func 131) #[] #[]]) (str j4)<|bl #[aj 2,.func (.func 131) #[] #[]]) (str kA)<|bl #[aj 2,.func (.func 132) #[] #[]]) (str iD)<|bl #[aj 2,.func (.func 133) #[] #[]]):=aT
 have bk:=kE (k:=iD) (v:=bl #[aj 2,.func (.func 133) #[] #[]]) bx
 have ag:Wk w I:=aw.trans' aE fun k hk h=>by omega
 refine p (cE (ps:= [(0,aj 2),(1,.func (.func 134) #[] #[])]) (L:= [aj 2,.func (.func 134) #[] #[]]) kH aa<|aa)<|e<|kz kb fZ (bg) aa aa aa (⟨_,aa⟩) fun J aF aU=> ?_
 have a3:bQ J.heap a gv (bw (bw (bw (bw (bw (bw (bw (bw (bw (bw (bw zF (str gW)<|bl #[aj 2,.func (.func 128) #[] #[]]) (str ic)<|bl #[aj 2,.func (.func 129) #[] #[]]) (str iF)<|bl #[aj 2,.func (.func 130) #[] #[]]) (str iP)<|bl #[aj 2,.func (.func 131) #[] #[]]) (str jb)<|bl #[aj 2,.func (.func 131) #[] #[]]) (str jt)<|bl #[aj 2,.func (.func 131) #[] #[]]) (str jK)<|bl #[aj 2,.func (.func 131) #[] #[]]) (str j4)<|bl #[aj 2,.func (.func 131) #[] #[]]) (str kA)<|bl #[aj 2,.func (.func 132) #[] #[]]) (str iD)<|bl #[aj 2,.func (.func 133) #[] #[]]) (str gV)<|bl #[aj 2,.func (.func 134) #[] #[]]):=aU
 have bm:=kE (k:=gV) (v:=bl #[aj 2,.func (.func 134) #[] #[]]) bk
 have ah:Wk w J:=ag.trans' aF fun k hk h=>by omega
 refine p (cE (ps:= [(0,aj 4),(1,.func (.func 135) #[] #[])]) (L:= [aj 4,.func (.func 135) #[] #[]]) kH aa<|aa)<|e<|kz kb fZ (a3) aa aa aa (⟨_,aa⟩) fun M aG aV=> ?_
 have a4:bQ M.heap a gv (bw (bw (bw (bw (bw (bw (bw (bw (bw (bw (bw (bw zF (str gW)<|bl #[aj 2,.func (.func 128) #[] #[]]) (str ic)<|bl #[aj 2,.func (.func 129) #[] #[]]) (str iF)<|bl #[aj 2,.func (.func 130) #[] #[]]) (str iP)<|bl #[aj 2,.func (.func 131) #[] #[]]) (str jb)<|bl #[aj 2,.func (.func 131) #[] #[]]) (str jt)<|bl #[aj 2,.func (.func 131) #[] #[]]) (str jK)<|bl #[aj 2,.func (.func 131) #[] #[]]) (str j4)<|bl #[aj 2,.func (.func 131) #[] #[]]) (str kA)<|bl #[aj 2,.func (.func 132) #[] #[]]) (str iD)<|bl #[aj 2,.func (.func 133) #[] #[]]) (str gV)<|bl #[aj 2,.func (.func 134) #[] #[]]) (str gX)<|bl #[aj 4,.func (.func 135) #[] #[]]):=aV
 have bn:=kE (k:=gX) (v:=bl #[aj 4,.func (.func 135) #[] #[]]) bm
 have ai:Wk w M:=ah.trans' aG fun k hk h=>by omega
 refine p (cE (ps:= [(0,aj 4),(1,.func (.func 135) #[] #[])]) (L:= [aj 4,.func (.func 135) #[] #[]]) kH aa<|aa)<|e<|kz kb fZ (a4) aa aa aa (⟨_,aa⟩) fun O aH aW=> ?_
 have a5:bQ O.heap a gv (bw (bw (bw (bw (bw (bw (bw (bw (bw (bw (bw (bw (bw zF (str gW)<|bl #[aj 2,.func (.func 128) #[] #[]]) (str ic)<|bl #[aj 2,.func (.func 129) #[] #[]]) (str iF)<|bl #[aj 2,.func (.func 130) #[] #[]]) (str iP)<|bl #[aj 2,.func (.func 131) #[] #[]]) (str jb)<|bl #[aj 2,.func (.func 131) #[] #[]]) (str jt)<|bl #[aj 2,.func (.func 131) #[] #[]]) (str jK)<|bl #[aj 2,.func (.func 131) #[] #[]]) (str j4)<|bl #[aj 2,.func (.func 131) #[] #[]]) (str kA)<|bl #[aj 2,.func (.func 132) #[] #[]]) (str iD)<|bl #[aj 2,.func (.func 133) #[] #[]]) (str gV)<|bl #[aj 2,.func (.func 134) #[] #[]]) (str gX)<|bl #[aj 4,.func (.func 135) #[] #[]]) (str cY)<|bl #[aj 4,.func (.func 135) #[] #[]]):=aW
 have bo:=kE (k:=cY) (v:=bl #[aj 4,.func (.func 135) #[] #[]]) bn
 have al:Wk w O:=ai.trans' aH fun k hk h=>by omega
 exact p mv<|ay<|ab<|rt<|a6 aa<|⟨a,aa,bh,⟨_,a5,fun s=>bo s⟩,al⟩
theorem Pm (C E:Nat) (w:World):
 CallsD au 82 (aY [.pointer (some ⟨C,0,none⟩),.pointer (some ⟨E,0,none⟩)]) .returning w (fun en G w'=> ∃ v,en= .returned v∧G= .returning∧(fun w'=>Wk w w') w'):=by
 refine AS (v:= .nilIface) func82 aa ntmps82 aa (fun M cs A=> .inr ⟨by simp [recoverD,A],aa,aa⟩) ?_
 refine p (QK xY R9 aa)<|p mv<|p (xt aa aa)<|p (xt aa aa)<|e<|al mu fun J V U q a=>e<|cw gS aa aa aa aa (a) (by simp) fun Y i O=>p aA<|nl<|tn<|sq fun I c=>rg aa<|p mv<|nl<|tn<|c _ _<|cf (aa)<|aM<|f0 aa ?_
 exact q.md.trans' i fun k hk h=>by omega
theorem Pl (a c:Nat) (ln:Nat) (er:Int) (w:World) (h2:∃ v:Value,w.heap[a]? =some (.cells [v].toArray 60 (0,0))) (h3:∃ L:List Value,L.length=3∧w.heap[c]? =some (.cells L.toArray 47 (0,0))) (O:a≠c):
 CallsD au 82 (aY [.pointer (some ⟨a,0,none⟩),.pointer (some ⟨c,0,none⟩)]) (.panicking<|gr 47 ln er) w (fun en am w'=> ∃ v,en= .returned v∧am=(.panicking [{v:= .iface 47 (.agg [.int .i64 1,.int .i64 (ln:Nat),.int .i64 er].toArray),recovered:=true}])∧(fun w'=>w'.heap[a]? =some (.cells [.pointer none].toArray 60 (0,0))∧w'.heap[c]? =some (.cells [.int .i64 1,.int .i64 (ln:Nat),.int .i64 er].toArray 47 (0,0))∧Md (fun k=>k=a∨k=c) w w') w'):=by
 obtain ⟨v2,h2⟩:=h2
 obtain ⟨I,ae,h3⟩:=h3
 have aw:=(cg.1 h2).1
 have ax:=(cg.1 h3).1
 refine AS (v:= .iface 47<|.agg [.int .i64 1,.int .i64 (ln:Nat),.int .i64 er].toArray) func82 aa ntmps82 aa (fun aq cs aj=> .inl<|by simp [recoverD,aj,gr]) ?_
 refine p (QJ xY aa)<|p mv<|p (xt aa aa)<|p (xt aa aa)<|e<|al mu fun U ay ar E Y=>e<|cw gS aa aa aa aa (Y) (by simp) fun i q V=> ?_
 have ac:bA i.heap U [.int .i64 1,.int .i64 (ln:Nat),.int .i64 er]:=V
 refine p aA<|nl<|tn<|sq fun ap ad=>rg aa<|p mv<|nl<|tn<|ad _ _<|ct (aa) ?_
 have G:(fun w'=>Md (fun k=>k=a∨k=c) i w') i.drew:=(Md.refl _ _).drew
 refine bK (fun w'=>Md (fun k=>k=a∨k=c) i w') aa wide G<|hp 0 aa ag (fun w' ah=>cI jm aa (aa) fun j av=>bA.bu (Md.B ah ac fun h=>by omega) j) G<|he 1 aa ag<|dA wu aa aa (v:= .pointer none) aa (q.aB (Wk.aB E.md h2) fun h=>by omega) (by show 0 < 1; decide) fun an A Z=> ?_
 have M:(fun w'=>Md (fun k=>k=a∨k=c) i w') an:=G.trans' A fun _ _ h=> .inl h
 refine ⟨M,?_⟩
 refine he 2 aa ag<|ga gS aa aa aa aa (A.aB (q.aB (Wk.aB E.md h3) fun h=>by omega) fun h=>O h.symm) (by rw [ae]; decide) fun ao C J=> ?_
 have ai:(fun w'=>Md (fun k=>k=a∨k=c) i w') ao:=M.trans' C fun _ _ h=> .inr h
 refine ⟨ai,?_⟩
 refine hn ag<|f0 aa ?_
 have ak:I.take 0 ++ [gA .i64 1,.int .i64 (ln:Nat),.int .i64 er]++I.drop (0 +3)= [gA .i64 1,.int .i64 (ln:Nat),.int .i64 er]:=by rw [kL ab]; rfl
 rw [ak] at J
 exact ⟨C.aB Z O,J,(((E.md.mono fun _ _ h=>h.elim).trans' q fun k hk h=>by omega).trans' (gY A) fun _ _ h=> .inl h).trans' C fun _ _ h=> .inr h⟩
theorem DH (a c:Nat) (w:World):(invoke (.fn (.func 82) #[aU a,aU c]) #[]).run au w= .ok (.enter 82 #[aU a,aU c]) w:=by
 have h:=IJ #[aU a,aU c] w
 simp [invoke,h]
theorem tx {n:Nat} {D:List Deferred} {G:List Nat} {σ:Nat→Value} {t:Nat} (h:t < n):ev ⟨n,D,G,none⟩ σ (.tmp t)=σ t:=by
 show cond (Nat.blt t n) (σ t) undef=_
 rw [show Nat.blt t n=true from by simpa using h]; rfl
theorem Pr {n:Nat} {G:List Nat} {fn:Func} {R:Value→World→Prop} {σ:Nat→Value} {w:World} {a c ln:Nat} {er:Int} (E:fn.results= #[.cell 2 60,.cell 3 47]) (M:3 < n) (I:σ 2= .pointer (some ⟨a,0,none⟩)) (J:σ 3= .pointer (some ⟨c,0,none⟩)) (h2:∃ v:Value,w.heap[a]? =some (.cells [v].toArray 60 (0,0))) (h3:∃ L:List Value,L.length=3∧w.heap[c]? =some (.cells L.toArray 47 (0,0))) (C:a≠c)
 (i:∀ w',Md (fun k=>k=a∨k=c) w w'→R (.tuple #[.pointer none,.agg [.int .i64 1,.int .i64 (ln:Nat),.int .i64 er].toArray]) w'):qb ⟨n,[{target:= .fn (.func 82) #[.pointer (some ⟨a,0,none⟩),.pointer (some ⟨c,0,none⟩)],args:= #[]}],G,none⟩ (nv au fn R) (.panic<|gr 47 ln er) σ w:=by
 refine Ly (DH a c w) (Pl a c ln er w h2 h3 C) ?_
 rintro w' ⟨q,A,hm⟩
 exact ⟨_,tY E (k5<|yw ((tx ab).trans I) ed<|(aX q).trans aa) (k5<|dy (cs:= [.int .i64 1,.int .i64 (ln:Nat),.int .i64 er]) ((tx ab).trans J) jm aa fun j _=>by rw [fj,aX A]; simp),i w' hm⟩
theorem Ps {n:Nat} {G:List Nat} {fn:Func} {R:Value→World→Prop} {σ:Nat→Value} {w:World} {a c:Nat} {v:Value} {L:List Value} (E:fn.results= #[.cell 2 60,.cell 3 47]) (M:3 < n) (I:σ 2= .pointer (some ⟨a,0,none⟩)) (J:σ 3= .pointer (some ⟨c,0,none⟩)) (h2:w.heap[a]? =some (.cells [v].toArray 60 (0,0))) (h3:w.heap[c]? =some (.cells L.toArray 47 (0,0))) (i:L.length=3)
 (q:∀ w',Wk w w'→R (.tuple #[v,.agg L.toArray]) w'):qb ⟨n,[{target:= .fn (.func 82) #[.pointer (some ⟨a,0,none⟩),.pointer (some ⟨c,0,none⟩)],args:= #[]}],G,none⟩ (nv au fn R) .ret σ w:=by
 refine Lx (DH a c w) (Pm a c w) ?_
 intro w' hm
 have A:=Wk.aB hm h2
 have C:=Wk.aB hm h3
 exact ⟨_,tY E (k5<|yw ((tx ab).trans I) ed<|(aX A).trans aa) (k5<|dy (cs:=L) ((tx ab).trans J) jm i fun j _=>by rw [fj,aX C]; simp),q w' hm⟩
theorem MB (B:Nat) (H:bP) (F:aE) (rows:List Rw) (ln:Nat) (seen:List Tx) (r:List Tx) (a:Nat) (ar:Option Addr) (cr:Nat) (w:World) (c:St w B H F rows ln seen) (i:Tg w a 9 r.length (.slice ar r.length cr) (r.map str)) (q:∀ x∈r,x.length≤70000) (hw:r.length=width (r.getD 0 [])) (E:iN F seen) (C:width (r.getD 0 [])=2→r.getD 0 []∉seen) (A:F.cT.length+F.aliases.length+F.bo.length+F.rules.length+rows.length < 70000) (hk:r.getD 0 []=gW):dV au 128 (aY [.pointer (some ⟨H.rb,0,none⟩),.slice ar r.length cr]) w (gF B H seen (bN H.eof F seen rows ln r) w) (gE B H (bN H.eof F seen rows ln r) w):=by
 have h:=NC B H F rows ln seen r a ar cr w c i (by rw [hw,hk]; decide) q
 rw [show bN H.eof F seen rows ln r=jM F seen rows ln r from by unfold bN; rw [hk]; rfl]
 exact h
theorem MJ (B:Nat) (H:bP) (F:aE) (rows:List Rw) (ln:Nat) (seen:List Tx) (r:List Tx) (a:Nat) (ar:Option Addr) (cr:Nat) (w:World) (c:St w B H F rows ln seen) (i:Tg w a 9 r.length (.slice ar r.length cr) (r.map str)) (q:∀ x∈r,x.length≤70000) (hw:r.length=width (r.getD 0 [])) (E:iN F seen) (C:width (r.getD 0 [])=2→r.getD 0 []∉seen) (A:F.cT.length+F.aliases.length+F.bo.length+F.rules.length+rows.length < 70000) (hk:r.getD 0 []=ic):dV au 129 (aY [.pointer (some ⟨H.rb,0,none⟩),.slice ar r.length cr]) w (gF B H seen (bN H.eof F seen rows ln r) w) (gE B H (bN H.eof F seen rows ln r) w):=by
 have h:=IX B H F rows ln seen r a ar cr w c i (by rw [hw,hk]; decide) q
 rw [show bN H.eof F seen rows ln r=lI F rows ln r from by unfold bN; rw [hk]; rfl]
 exact h
theorem ML (B:Nat) (H:bP) (F:aE) (rows:List Rw) (ln:Nat) (seen:List Tx) (r:List Tx) (a:Nat) (ar:Option Addr) (cr:Nat) (w:World) (c:St w B H F rows ln seen) (i:Tg w a 9 r.length (.slice ar r.length cr) (r.map str)) (q:∀ x∈r,x.length≤70000) (hw:r.length=width (r.getD 0 [])) (E:iN F seen) (C:width (r.getD 0 [])=2→r.getD 0 []∉seen) (A:F.cT.length+F.aliases.length+F.bo.length+F.rules.length+rows.length < 70000) (hk:r.getD 0 []=iF):dV au 130 (aY [.pointer (some ⟨H.rb,0,none⟩),.slice ar r.length cr]) w (gF B H seen (bN H.eof F seen rows ln r) w) (gE B H (bN H.eof F seen rows ln r) w):=by
 have h:=Q6 B H F rows ln seen r a ar cr w c i (by rw [hw,hk]; decide) q
 rw [show bN H.eof F seen rows ln r=lK F rows ln r from by unfold bN; rw [hk]; rfl]
 exact h
theorem MF (B:Nat) (H:bP) (F:aE) (rows:List Rw) (ln:Nat) (seen:List Tx) (r:List Tx) (a:Nat) (ar:Option Addr) (cr:Nat) (w:World) (c:St w B H F rows ln seen) (i:Tg w a 9 r.length (.slice ar r.length cr) (r.map str)) (A:∀ x∈r,x.length≤70000) (hw:r.length=width (r.getD 0 [])) (C:iN F seen) (q:width (r.getD 0 [])=2→r.getD 0 []∉seen) (E:F.cT.length+F.aliases.length+F.bo.length+F.rules.length+rows.length < 70000) (hk:r.getD 0 []=iP):dV au 131 (aY [.pointer (some ⟨H.rb,0,none⟩),.slice ar r.length cr]) w (gF B H seen (bN H.eof F seen rows ln r) w) (gE B H (bN H.eof F seen rows ln r) w):=by
 have h:=rV B H F rows ln seen r a ar cr w c i (by rw [hw,hk]; decide) A (by rw [hk]; decide)<|C _ (by rw [hk]; decide)<|q<|by rw [hk]; decide
 rw [show bN H.eof F seen rows ln r=je F rows ln r from by unfold bN; rw [hk]; rfl]
 exact h
theorem MC (B:Nat) (H:bP) (F:aE) (rows:List Rw) (ln:Nat) (seen:List Tx) (r:List Tx) (a:Nat) (ar:Option Addr) (cr:Nat) (w:World) (c:St w B H F rows ln seen) (i:Tg w a 9 r.length (.slice ar r.length cr) (r.map str)) (A:∀ x∈r,x.length≤70000) (hw:r.length=width (r.getD 0 [])) (C:iN F seen) (q:width (r.getD 0 [])=2→r.getD 0 []∉seen) (E:F.cT.length+F.aliases.length+F.bo.length+F.rules.length+rows.length < 70000) (hk:r.getD 0 []=jb):dV au 131 (aY [.pointer (some ⟨H.rb,0,none⟩),.slice ar r.length cr]) w (gF B H seen (bN H.eof F seen rows ln r) w) (gE B H (bN H.eof F seen rows ln r) w):=by
 have h:=rV B H F rows ln seen r a ar cr w c i (by rw [hw,hk]; decide) A (by rw [hk]; decide)<|C _ (by rw [hk]; decide)<|q<|by rw [hk]; decide
 rw [show bN H.eof F seen rows ln r=je F rows ln r from by unfold bN; rw [hk]; rfl]
 exact h
theorem MD (B:Nat) (H:bP) (F:aE) (rows:List Rw) (ln:Nat) (seen:List Tx) (r:List Tx) (a:Nat) (ar:Option Addr) (cr:Nat) (w:World) (c:St w B H F rows ln seen) (i:Tg w a 9 r.length (.slice ar r.length cr) (r.map str)) (A:∀ x∈r,x.length≤70000) (hw:r.length=width (r.getD 0 [])) (C:iN F seen) (q:width (r.getD 0 [])=2→r.getD 0 []∉seen) (E:F.cT.length+F.aliases.length+F.bo.length+F.rules.length+rows.length < 70000) (hk:r.getD 0 []=jt):dV au 131 (aY [.pointer (some ⟨H.rb,0,none⟩),.slice ar r.length cr]) w (gF B H seen (bN H.eof F seen rows ln r) w) (gE B H (bN H.eof F seen rows ln r) w):=by
 have h:=rV B H F rows ln seen r a ar cr w c i (by rw [hw,hk]; decide) A (by rw [hk]; decide)<|C _ (by rw [hk]; decide)<|q<|by rw [hk]; decide
 rw [show bN H.eof F seen rows ln r=je F rows ln r from by unfold bN; rw [hk]; rfl]
 exact h
theorem MA (B:Nat) (H:bP) (F:aE) (rows:List Rw) (ln:Nat) (seen:List Tx) (r:List Tx) (a:Nat) (ar:Option Addr) (cr:Nat) (w:World) (c:St w B H F rows ln seen) (i:Tg w a 9 r.length (.slice ar r.length cr) (r.map str)) (A:∀ x∈r,x.length≤70000) (hw:r.length=width (r.getD 0 [])) (C:iN F seen) (q:width (r.getD 0 [])=2→r.getD 0 []∉seen) (E:F.cT.length+F.aliases.length+F.bo.length+F.rules.length+rows.length < 70000) (hk:r.getD 0 []=jK):dV au 131 (aY [.pointer (some ⟨H.rb,0,none⟩),.slice ar r.length cr]) w (gF B H seen (bN H.eof F seen rows ln r) w) (gE B H (bN H.eof F seen rows ln r) w):=by
 have h:=rV B H F rows ln seen r a ar cr w c i (by rw [hw,hk]; decide) A (by rw [hk]; decide)<|C _ (by rw [hk]; decide)<|q<|by rw [hk]; decide
 rw [show bN H.eof F seen rows ln r=je F rows ln r from by unfold bN; rw [hk]; rfl]
 exact h
theorem MG (B:Nat) (H:bP) (F:aE) (rows:List Rw) (ln:Nat) (seen:List Tx) (r:List Tx) (a:Nat) (ar:Option Addr) (cr:Nat) (w:World) (c:St w B H F rows ln seen) (i:Tg w a 9 r.length (.slice ar r.length cr) (r.map str)) (A:∀ x∈r,x.length≤70000) (hw:r.length=width (r.getD 0 [])) (C:iN F seen) (q:width (r.getD 0 [])=2→r.getD 0 []∉seen) (E:F.cT.length+F.aliases.length+F.bo.length+F.rules.length+rows.length < 70000) (hk:r.getD 0 []=j4):dV au 131 (aY [.pointer (some ⟨H.rb,0,none⟩),.slice ar r.length cr]) w (gF B H seen (bN H.eof F seen rows ln r) w) (gE B H (bN H.eof F seen rows ln r) w):=by
 have h:=rV B H F rows ln seen r a ar cr w c i (by rw [hw,hk]; decide) A (by rw [hk]; decide)<|C _ (by rw [hk]; decide)<|q<|by rw [hk]; decide
 rw [show bN H.eof F seen rows ln r=je F rows ln r from by unfold bN; rw [hk]; rfl]
 exact h
theorem ME (B:Nat) (H:bP) (F:aE) (rows:List Rw) (ln:Nat) (seen:List Tx) (r:List Tx) (a:Nat) (ar:Option Addr) (cr:Nat) (w:World) (c:St w B H F rows ln seen) (i:Tg w a 9 r.length (.slice ar r.length cr) (r.map str)) (q:∀ x∈r,x.length≤70000) (hw:r.length=width (r.getD 0 [])) (E:iN F seen) (C:width (r.getD 0 [])=2→r.getD 0 []∉seen) (A:F.cT.length+F.aliases.length+F.bo.length+F.rules.length+rows.length < 70000) (hk:r.getD 0 []=kA):dV au 132 (aY [.pointer (some ⟨H.rb,0,none⟩),.slice ar r.length cr]) w (gF B H seen (bN H.eof F seen rows ln r) w) (gE B H (bN H.eof F seen rows ln r) w):=by
 have h:=NG B H F rows ln seen r a ar cr w c i (by rw [hw,hk]; decide) q
 rw [show bN H.eof F seen rows ln r=jN F rows ln r from by unfold bN; rw [hk]; rfl]
 exact h
theorem MI (B:Nat) (H:bP) (F:aE) (rows:List Rw) (ln:Nat) (seen:List Tx) (r:List Tx) (a:Nat) (ar:Option Addr) (cr:Nat) (w:World) (c:St w B H F rows ln seen) (i:Tg w a 9 r.length (.slice ar r.length cr) (r.map str)) (q:∀ x∈r,x.length≤70000) (hw:r.length=width (r.getD 0 [])) (E:iN F seen) (C:width (r.getD 0 [])=2→r.getD 0 []∉seen) (A:F.cT.length+F.aliases.length+F.bo.length+F.rules.length+rows.length < 70000) (hk:r.getD 0 []=iD):dV au 133 (aY [.pointer (some ⟨H.rb,0,none⟩),.slice ar r.length cr]) w (gF B H seen (bN H.eof F seen rows ln r) w) (gE B H (bN H.eof F seen rows ln r) w):=by
 have h:=PB B H F rows ln seen r a ar cr w c i (by rw [hw,hk]; decide) q
 rw [show bN H.eof F seen rows ln r=jQ H.eof F rows ln r from by unfold bN; rw [hk]; rfl]
 exact h
theorem Mz (B:Nat) (H:bP) (F:aE) (rows:List Rw) (ln:Nat) (seen:List Tx) (r:List Tx) (a:Nat) (ar:Option Addr) (cr:Nat) (w:World) (c:St w B H F rows ln seen) (i:Tg w a 9 r.length (.slice ar r.length cr) (r.map str)) (q:∀ x∈r,x.length≤70000) (hw:r.length=width (r.getD 0 [])) (E:iN F seen) (C:width (r.getD 0 [])=2→r.getD 0 []∉seen) (A:F.cT.length+F.aliases.length+F.bo.length+F.rules.length+rows.length < 70000) (hk:r.getD 0 []=gV):dV au 134 (aY [.pointer (some ⟨H.rb,0,none⟩),.slice ar r.length cr]) w (gF B H seen (bN H.eof F seen rows ln r) w) (gE B H (bN H.eof F seen rows ln r) w):=by
 have h:=GU B H F rows ln seen r a ar cr w c i (by rw [hw,hk]; decide) q
 rw [show bN H.eof F seen rows ln r=jn H.eof F seen rows ln r from by unfold bN; rw [hk]; rfl]
 exact h
theorem MH (B:Nat) (H:bP) (F:aE) (rows:List Rw) (ln:Nat) (seen:List Tx) (r:List Tx) (a:Nat) (ar:Option Addr) (cr:Nat) (w:World) (c:St w B H F rows ln seen) (i:Tg w a 9 r.length (.slice ar r.length cr) (r.map str)) (A:∀ x∈r,x.length≤70000) (hw:r.length=width (r.getD 0 [])) (E:iN F seen) (C:width (r.getD 0 [])=2→r.getD 0 []∉seen) (q:F.cT.length+F.aliases.length+F.bo.length+F.rules.length+rows.length < 70000) (hk:r.getD 0 []=gX):dV au 135 (aY [.pointer (some ⟨H.rb,0,none⟩),.slice ar r.length cr]) w (gF B H seen (bN H.eof F seen rows ln r) w) (gE B H (bN H.eof F seen rows ln r) w):=by
 have h:=AW B H F rows ln seen r a ar cr w c i (by rw [hw,hk]; decide) A q
 rw [show bN H.eof F seen rows ln r=gp H.eof F rows ln r from by unfold bN; rw [hk]; rfl]
 exact h
theorem MK (B:Nat) (H:bP) (F:aE) (rows:List Rw) (ln:Nat) (seen:List Tx) (r:List Tx) (a:Nat) (ar:Option Addr) (cr:Nat) (w:World) (c:St w B H F rows ln seen) (i:Tg w a 9 r.length (.slice ar r.length cr) (r.map str)) (A:∀ x∈r,x.length≤70000) (hw:r.length=width (r.getD 0 [])) (E:iN F seen) (C:width (r.getD 0 [])=2→r.getD 0 []∉seen) (q:F.cT.length+F.aliases.length+F.bo.length+F.rules.length+rows.length < 70000) (hk:r.getD 0 []=cY):dV au 135 (aY [.pointer (some ⟨H.rb,0,none⟩),.slice ar r.length cr]) w (gF B H seen (bN H.eof F seen rows ln r) w) (gE B H (bN H.eof F seen rows ln r) w):=by
 have h:=AW B H F rows ln seen r a ar cr w c i (by rw [hw,hk]; decide) A q
 rw [show bN H.eof F seen rows ln r=gp H.eof F rows ln r from by unfold bN; rw [hk]; rfl]
 exact h
theorem CA (B:Nat) (H:bP) (F:aE) (rows:List Rw) (ln:Nat) (seen:List Tx) (r:List Tx) (c:Nat) (ar:Option Addr) (cr:Nat) (w:World) (i:St w B H F rows ln seen) (q:Tg w c 9 r.length (.slice ar r.length cr) (r.map str)) (E:∀ x∈r,x.length≤70000) (hw:r.length=width (r.getD 0 [])) (G:iN F seen) (C:width (r.getD 0 [])=2→r.getD 0 []∉seen) (A:F.cT.length+F.aliases.length+F.bo.length+F.rules.length+rows.length < 70000) {v:Value} (a:fF (r.getD 0 [])=some v):∃ f:Nat,v= .agg [.int .i64 (width (r.getD 0 []):Nat),.func (.func f) #[] #[]].toArray∧a8 au f∧dV au f (aY [.pointer (some ⟨H.rb,0,none⟩),.slice ar r.length cr]) w (gF B H seen (bN H.eof F seen rows ln r) w) (gE B H (bN H.eof F seen rows ln r) w):=by
 unfold fF at a
 by_cases hk:r.getD 0 []=cY
 · rw [if_pos hk] at a; cases a; exact ⟨_,by rw [hk]; rfl,Ai,MK B H F rows ln seen r c ar cr w i q E hw G C A hk⟩
 · rw [if_neg hk] at a; clear hk
   by_cases hk:r.getD 0 []=gX
   · rw [if_pos hk] at a; cases a; exact ⟨_,by rw [hk]; rfl,Ai,MH B H F rows ln seen r c ar cr w i q E hw G C A hk⟩
   · rw [if_neg hk] at a; clear hk
     by_cases hk:r.getD 0 []=gV
     · rw [if_pos hk] at a; cases a; exact ⟨_,by rw [hk]; rfl,HG,Mz B H F rows ln seen r c ar cr w i q E hw G C A hk⟩
     · rw [if_neg hk] at a; clear hk
       by_cases hk:r.getD 0 []=iD
       · rw [if_pos hk] at a; cases a; exact ⟨_,by rw [hk]; rfl,HF,MI B H F rows ln seen r c ar cr w i q E hw G C A hk⟩
       · rw [if_neg hk] at a; clear hk
         by_cases hk:r.getD 0 []=kA
         · rw [if_pos hk] at a; cases a; exact ⟨_,by rw [hk]; rfl,HE,ME B H F rows ln seen r c ar cr w i q E hw G C A hk⟩
         · rw [if_neg hk] at a; clear hk
           by_cases hk:r.getD 0 []=j4
           · rw [if_pos hk] at a; cases a; exact ⟨_,by rw [hk]; rfl,qQ,MG B H F rows ln seen r c ar cr w i q E hw G C A hk⟩
           · rw [if_neg hk] at a; clear hk
             by_cases hk:r.getD 0 []=jK
             · rw [if_pos hk] at a; cases a; exact ⟨_,by rw [hk]; rfl,qQ,MA B H F rows ln seen r c ar cr w i q E hw G C A hk⟩
             · rw [if_neg hk] at a; clear hk
               by_cases hk:r.getD 0 []=jt
               · rw [if_pos hk] at a; cases a; exact ⟨_,by rw [hk]; rfl,qQ,MD B H F rows ln seen r c ar cr w i q E hw G C A hk⟩
               · rw [if_neg hk] at a; clear hk
                 by_cases hk:r.getD 0 []=jb
                 · rw [if_pos hk] at a; cases a; exact ⟨_,by rw [hk]; rfl,qQ,MC B H F rows ln seen r c ar cr w i q E hw G C A hk⟩
                 · rw [if_neg hk] at a; clear hk
                   by_cases hk:r.getD 0 []=iP
                   · rw [if_pos hk] at a; cases a; exact ⟨_,by rw [hk]; rfl,qQ,MF B H F rows ln seen r c ar cr w i q E hw G C A hk⟩
                   · rw [if_neg hk] at a; clear hk
                     by_cases hk:r.getD 0 []=iF
                     · rw [if_pos hk] at a; cases a; exact ⟨_,by rw [hk]; rfl,HD,ML B H F rows ln seen r c ar cr w i q E hw G C A hk⟩
                     · rw [if_neg hk] at a; clear hk
                       by_cases hk:r.getD 0 []=ic
                       · rw [if_pos hk] at a; cases a; exact ⟨_,by rw [hk]; rfl,HC,MJ B H F rows ln seen r c ar cr w i q E hw G C A hk⟩
                       · rw [if_neg hk] at a; clear hk
                         by_cases hk:r.getD 0 []=gW
                         · rw [if_pos hk] at a; cases a; exact ⟨_,by rw [hk]; rfl,HB,MB B H F rows ln seen r c ar cr w i q E hw G C A hk⟩
                         · rw [if_neg hk] at a; clear hk
                           cases a
theorem Cw {s:Tx} (a:fF s=none):width s=0:=by
 unfold fF at a
 by_cases U:s=cY
 · rw [if_pos U] at a; cases a
 · rw [if_neg U] at a
   by_cases J:s=gX
   · rw [if_pos J] at a; cases a
   · rw [if_neg J] at a
     by_cases c:s=gV
     · rw [if_pos c] at a; cases a
     · rw [if_neg c] at a
       by_cases M:s=iD
       · rw [if_pos M] at a; cases a
       · rw [if_neg M] at a
         by_cases E:s=kA
         · rw [if_pos E] at a; cases a
         · rw [if_neg E] at a
           by_cases I:s=j4
           · rw [if_pos I] at a; cases a
           · rw [if_neg I] at a
             by_cases i:s=jK
             · rw [if_pos i] at a; cases a
             · rw [if_neg i] at a
               by_cases C:s=jt
               · rw [if_pos C] at a; cases a
               · rw [if_neg C] at a
                 by_cases A:s=jb
                 · rw [if_pos A] at a; cases a
                 · rw [if_neg A] at a
                   by_cases G:s=iP
                   · rw [if_pos G] at a; cases a
                   · rw [if_neg G] at a
                     by_cases V:s=iF
                     · rw [if_pos V] at a; cases a
                     · rw [if_neg V] at a
                       by_cases O:s=ic
                       · rw [if_pos O] at a; cases a
                       · rw [if_neg O] at a
                         by_cases q:s=gW
                         · rw [if_pos q] at a; cases a
                         · rw [if_neg q] at a
                           unfold width fg; simp [q,O,V,G,A,C,i,I,E,M,c,J,U]
theorem xJ (s:Tx):fF s=none∨∃ (wd f:Nat),fF s=some (bl #[.int .i64 (wd:Nat),.func (.func f) #[] #[]])∧width s=wd∧wd≠0:=by
 by_cases a:s=cY
 · exact .inr ⟨4,135,by unfold fF; rw [if_pos a],by rw [a]; decide,aw⟩
 by_cases c:s=gX
 · exact .inr ⟨4,135,by unfold fF; rw [if_neg a,if_pos c],by rw [c]; decide,aw⟩
 by_cases i:s=gV
 · exact .inr ⟨2,134,by unfold fF; rw [if_neg a,if_neg c,if_pos i],by rw [i]; decide,aw⟩
 by_cases q:s=iD
 · exact .inr ⟨2,133,by unfold fF; rw [if_neg a,if_neg c,if_neg i,if_pos q],by rw [q]; decide,aw⟩
 by_cases A:s=kA
 · exact .inr ⟨2,132,by unfold fF; rw [if_neg a,if_neg c,if_neg i,if_neg q,if_pos A],by rw [A]; decide,aw⟩
 by_cases C:s=j4
 · exact .inr ⟨2,131,by unfold fF; rw [if_neg a,if_neg c,if_neg i,if_neg q,if_neg A,if_pos C],by rw [C]; decide,aw⟩
 by_cases E:s=jK
 · exact .inr ⟨2,131,by unfold fF; rw [if_neg a,if_neg c,if_neg i,if_neg q,if_neg A,if_neg C,if_pos E],by rw [E]; decide,aw⟩
 by_cases G:s=jt
 · exact .inr ⟨2,131,by unfold fF; rw [if_neg a,if_neg c,if_neg i,if_neg q,if_neg A,if_neg C,if_neg E,if_pos G],by rw [G]; decide,aw⟩
 by_cases I:s=jb
 · exact .inr ⟨2,131,by unfold fF; rw [if_neg a,if_neg c,if_neg i,if_neg q,if_neg A,if_neg C,if_neg E,if_neg G,if_pos I],by rw [I]; decide,aw⟩
 by_cases J:s=iP
 · exact .inr ⟨2,131,by unfold fF; rw [if_neg a,if_neg c,if_neg i,if_neg q,if_neg A,if_neg C,if_neg E,if_neg G,if_neg I,if_pos J],by rw [J]; decide,aw⟩
 by_cases M:s=iF
 · exact .inr ⟨2,130,by unfold fF; rw [if_neg a,if_neg c,if_neg i,if_neg q,if_neg A,if_neg C,if_neg E,if_neg G,if_neg I,if_neg J,if_pos M],by rw [M]; decide,aw⟩
 by_cases O:s=ic
 · exact .inr ⟨2,129,by unfold fF; rw [if_neg a,if_neg c,if_neg i,if_neg q,if_neg A,if_neg C,if_neg E,if_neg G,if_neg I,if_neg J,if_neg M,if_pos O],by rw [O]; decide,aw⟩
 by_cases U:s=gW
 · exact .inr ⟨2,128,by unfold fF; rw [if_neg a,if_neg c,if_neg i,if_neg q,if_neg A,if_neg C,if_neg E,if_neg G,if_neg I,if_neg J,if_neg M,if_neg O,if_pos U],by rw [U]; decide,aw⟩
 refine .inl ?_
 unfold fF
 rw [if_neg a,if_neg c,if_neg i,if_neg q,if_neg A,if_neg C,if_neg E,if_neg G,if_neg I,if_neg J,if_neg M,if_neg O,if_neg U]
end Go.Hb
namespace Go.Hb.sJ
theorem Mr {α:Type} {l:List α} {i:Nat} {d:α} (h:i < l.length):l.getD i d∈l:=by
 rw [cO,cx h]; exact List.getElem_mem h
def ig (n:Nat) (a:List (List UInt8)):List (Nat×List UInt8):=(a.zipIdx n).map fun q=>(q.2,q.1)
theorem OC (n:Nat) (l:List UInt8) (a:List (List UInt8)):ig n (l::a)=(n,l)::ig (n+1) a:=by simp [ig,List.zipIdx_cons]
theorem OD (n:Nat):ig n []= []:=rfl
theorem x8 (n:Nat) (a:List (List UInt8)):(ig n a).map ll=a:=by
 unfold ig; rw [List.map_map]; exact List.zipIdx_map_fst n a
theorem Dn (n:Nat) (a:List (List UInt8)):(ig n a).length=a.length:=by simp [ig]
def tt (x:Nat×List UInt8):Array Value:= #[.int .i64 x.1,str x.2]
theorem x7 {a:List (List UInt8)} {n:Nat} {pre:List (Nat×List UInt8)} {x:Nat×List UInt8} {rest:List (Nat×List UInt8)} (h:ig n a=pre++x::rest):pre.length < a.length∧x.1=n+pre.length∧a=pre.map ll++x.2::rest.map ll:=by
 have h1:=congrArg kM h
 rw [Dn,bF,bT] at h1
 have h2:=congrArg (List.map ll) h
 rw [x8,iK,nk] at h2
 refine ⟨ab,?_,h2⟩
 have h3:=congrArg (fun l=>l[pre.length]?) h
 simp only [ig,fU,List.getElem?_zipIdx,lS (bX _),Nat.sub_self,vc] at h3
 cases h4:a[pre.length]? with
 | none=>rw [h4] at h3; cases h3
 | some q=>rw [h4] at h3; cases h3; rfl
theorem tq (s:List UInt8) (w:World):
 ba au 126 (aY [str s]) w (fun v w'=> ∃ b,v= .func (.func 189) #[] #[aU b]∧w.heap.size≤b∧w'.heap[b]? =some (.cells [str s].toArray 9 (0,0))∧Wk w w'):=by
 exact enter func126 aa ntmps126 aa<|ak fun a=>e<|sY aa aa fun i E C A q=>ay<|a<|ak fun c=>p C9<|ay<|c<|rt<|a6 aa<|⟨i,aa,ab,q,A.md⟩
theorem wH (s:List UInt8) (b:Nat) (hs:s.length≤65536) (l:Nat) (a:List (Nat×List UInt8)→World→Prop) (w:World) (J:a [] w) (aD:∀ pre W,a pre W→W.heap[b]? =some (.cells [str s].toArray 9 (0,0))) (bK:∀ pre i G,a pre i→Wk i G→a pre G) (aJ:∀ pre x rest i,(ig 1<|cJ s)=pre++x::rest→a pre i→YieldAt Fence.wide 0 au l (tt x) i fun e W'=>e= .returned (.bool true)∧a (pre++ [x]) W'):
 ba au 189 (aY [.func (.yield l) #[] #[],aU b]) w (fun v w'=>a (ig 1<|cJ s) w'):=by
 have O:=aD _ _ J
 refine enter func189 aa ntmps189 aa<|az fun V=>ak fun Z=>p (ld cG aa<|(aX O).trans aa)<|p (db u9 aa aa)<|p (gt aa aa)<|nl<|Z<|cd aa (fun h=>absurd h ab) fun aL=> ?_
 refine aM<|V<|ak fun ac=>p (ld cG aa<|(aX O).trans aa)<|e<|cl AQ (Es s C4 _ ab aw) aa fun v12 aS ar=> ?_
 obtain ⟨rfl,am⟩:=ar
 refine ay<|ac<|ak fun ad=>ay<|ad<|aB<|lp (fun I A E=> ∃ (r:List UInt8) (pre:List (Nat×List UInt8)),(r.length≤s.length)∧((ig 1<|cJ s)=pre++ig (pre.length+1) (ew [] r))∧(a pre E)∧(pre.length≤s.length)∧(A 0= .func (.yield l) #[] #[])∧(A 3=str r)∧(A 4=aj (pre.length+1))∧(r.length=I)) _ ⟨uC s,[],(yP s),aa,(bK _ _ _ J am),(Nat.zero_le _),aa,aa,(iv<|by first | rfl | (rw [bF]; rfl)),aa⟩ ?_
 rintro I A E ⟨r,pre,aP,U,M,aN,aF,aH,aI,rfl⟩
 refine fx 0 aF<|fx 3 aH<|fx 4 aI<|az fun ae=>ak fun ag=>ao (str r)<|p (rJ aa aa)<|nl<|ag<|cd aa (fun q=> ?_) fun q=> ?_
 have C:(ig 1<|cJ s)=pre++(pre.length+1,iO (kr 10 r))::ig (pre.length+2) (ew []<|lC 10 r):=by rw [U,NV q,OC]
 have aO:=Kd (c:=10) q
 have aK:=J0 10 r
 refine aM<|ae<|az fun ah=>aB<|ak fun ai=>ao (str r)<|e<|cl HQ (Ke r 10 _ ab) aa fun aQ aT av=> ?_
 obtain ⟨rfl,an⟩:=av
 refine p mv<|p (xt aa aa)<|p (xt aa aa)<|p (xt aa aa)<|p aA<|p aA<|p aA<|nl<|ai<|ak fun al=>p mv<|ay<|al<|az fun Y=> ?_
 refine PG ?_
 refine py aa (aG (.func (.yield l) #[] #[]) aa)<|py aa (aG (aj<|pre.length+1) aa)<|py aa mv<|ey aa<|cl AP (Q3 (kr 10 r) _ ab) aa fun aR aV ax=> ?_
 obtain ⟨rfl,ap⟩:=ax
 have aq:=bK _ _ _ M<|Md.trans an ap
 refine RP aa aa (aJ pre (pre.length+1,iO (kr 10 r)) _ _ C aq) fun aW aC=> ?_
 refine py aa (no aa)<|Ow ?_
 refine Y<|cf (aa)<|aM<|bn<|ah<|rg aa<|ao (aj<|pre.length+1)<|p (bG ((pre.length+2:Nat):Int) aa aa<|bd ab ab) ?_
 exact p aA<|nl<|tn<|⟨_,ab,lC 10 r,pre++ [(pre.length+1,iO (kr 10 r))],ab,(by rw [C,dx,bF]; rfl),aC,(by have h1:=x7 C; have h2:=oF s; rw [bF,iq]; omega),aa,aa,(iv<|by first | rfl | (rw [bF]; rfl)),aa⟩
 refine ext<|bc<|bc<|be<|f0 aa ?_
 show a (ig 1<|cJ s) E
 have aE:r= []:=Decidable.of_not_not q
 rw [U,aE,C2,OD,dS]
 exact M
theorem tp (s:List UInt8) (b:Nat) (hs:s.length≤65536):zE au 189 #[.pointer (some ⟨b,0,none⟩)] tt (ig 1<|cJ s) (fun W=>W.heap[b]? =some (.cells [str s].toArray 9 (0,0))):=
 fun l a W c i bK A=>kf (wH s b hs l a W c i bK A) fun e w' ⟨v,he,q⟩=>⟨⟨v,he⟩,q⟩
theorem Ea (s:List UInt8) (w:World) (hs:s.length≤1048576):
 ba au 81 (aY [str s]) w (fun v w'=>(∃ a,v= .tuple #[a,.int .i64 (if 65536 < s.length then 10 else 0)]∧(if 65536 < s.length then a= .slice none 0 0 else bm w' w.heap.size 9 1 (a) (cJ s).length ((cJ s).map str)))∧Wk w w'):=by
 refine wS [] func81 aa ntmps81 aa ?_
 refine ek<|eS<|rg aa<|p aA<|p aA<|nl<|ej<|ek<|ek<|eS<|rg aa<|p (aG (str s) aa)<|p (db u9 aa aa)<|p (gt aa aa)<|nl<|ej<|eS<|cd aa (fun aH=> ?_) fun aH=> ?_
 refine sq fun aO ay=>rg aa<|p aA<|p aA<|nl<|tn<|ay _ _<|rt<|prt<|Bz aa aa aa ?_
 have G:65536 < s.length:=ab
 exact ⟨⟨.slice none 0 0,by show iT #[.slice none 0 0,.int .i64 10]=_; rw [if_pos G],by rw [if_pos G]⟩,Md.refl _ _⟩
 refine aM<|ej<|ek<|eS<|rg aa<|e<|gR R5 fun ak aL aT az am=>nl<|ej<|ek<|ek<|eS<|rg aa<|p (aG (str s) aa)<|e<|cl Ag (tq s _) aa fun v11 aj aD=> ?_
 obtain ⟨Y,rfl,aR,al,an⟩:=aD
 have I:Wk w aj:=Md.trans az.md an
 have aE:=an.aB am
 have aS:=(cg.1 al).1
 have a1:ak < aL.heap.size:=(cg.1 am).1
 have G:s.length≤65536:=ab
 refine nl<|ej ?_
 apply DN (tt) (ig 1<|cJ s) (fun W=>W.heap[Y]? =some (.cells [str s].toArray 9 (0,0))) (fun pre E=> ∃ v,E.heap[ak]? =some (.cells [v].toArray 87 (0,0))∧bm E aj.heap.size 9 1 v pre.length ((pre.map ll).map str)∧E.heap[Y]? =some (.cells [str s].toArray 9 (0,0))∧aj.heap.size≤E.heap.size∧Wk w E) rfl Ao (fun _=>rfl) (tp s Y G) (⟨.slice none 0 0,aE,dI _ _ _ _,al,bX _,I⟩) (fun _ _ ⟨_,_,_,h,_⟩=>h) (fun pre A C F ⟨v,h1,h2,h3,h5,h4⟩ hm U=>⟨v,ur h1 hm U,Ec h2 hm U,ur h3 hm U,eV h5 hm.size,Ed h4 hm I.size U⟩)
 intro l x E K J
 exact rg aa<|p (bY (str x.2) aa)<|nl<|tn<|J
 intro l pre x rest E aI ac
 obtain ⟨v,V,q,ag,ai,Z⟩:=ac
 obtain ⟨a0,a3,a4⟩:=x7 aI
 have aW:=oF s
 have a2:=(cg.1 ag).1
 refine aB<|rg aa<|p (ld oo aa<|(aX V).trans aa)<|p mv<|e<|kT jS aa aa fun aP aK ad i ao=> ?_
 have ar:Wk w aK:=Md.trans Z i.md
 have ad:=i.md.aB V
 refine e<|ap jS (aV q i.md) aa (eV ai i.md.size) aa (aC.fO ao) (aa) (aa) ab ab fun aJ a6 ah M a5 aU=> ?_
 have av:=Wk.own ar (aV q i.md) M I.size
 have aF:=M.aB (i.md.aB ag) fun h=>by have :=dd (aV q i.md) h; omega
 have ae:=M.aB ad fun h=>dp (aV q i.md) ad aw h
 refine e<|dA Ko aa aa (eb ah) ae (by simp) fun aN O aq=> ?_
 have ax:Wk w aN:=Md.trans' av O fun k hk h=>by omega
 exact nl<|bn<|⟨(e6.wk i.md).trans ((e6.md M<|mY<|aV q i.md).trans<|e6.md O fun k hk=>⟨_,_,_,hk ▸ ae⟩),aJ,aq,bZ (by rw [iK,iK,bF]; exact ah) O (fun k hk h=>dp ah ae aw<|h ▸ hk),O.aB aF (fun h=>by omega),eV ai (eV i.md.size<|eV M.size O.size),ax⟩
 intro D E aQ ac J
 obtain ⟨v,V,q,ag,ai,Z⟩:=ac
 have aZ:=(cg.1 J).1
 refine ej<|ek<|eS<|rg aa<|p (ld oo aa<|(aX V).trans aa)<|p aA<|p aA<|nl<|ej<|rQ<|BA aa aa aa J ?_
 have G:¬65536 < s.length:=ab
 rw [x8,Dn] at q
 exact ⟨⟨v,by show iT #[v,.int .i64 0]=_; rw [if_neg G],by rw [if_neg G]; exact eD (bZ q (k0 _ _ _) fun k hk h=>by obtain ⟨c,e,z,h1⟩:=mY q k hk; rw [h,J] at h1; cases h1) I.size⟩,Md.trans' Z (k0 _ _ _) fun k hk h=>by have :=I.size; omega⟩
end Go.Hb.sJ
section
namespace Go.Hb
open Go.Hb.sJ
set_option maxHeartbeats 1000000 in
theorem DR (s:List UInt8) (w:World) (hs:s.length≤1048576):
 ba au 80 (aY [str s]) w (fun v w'=>(∃ a,v= .tuple #[a,.int .i64 (if 65536 < s.length then 10 else 0)]∧(if 65536 < s.length then a= .slice none 0 0 else ∃ vs,bm w' w.heap.size 209 2 a (ec s).length (kF vs)∧gk w' w.heap.size 9 vs (ec s)))∧Wk w w'):=by
 refine wS [] func80 aa ntmps80 aa ?_
 refine ek<|eS<|rg aa<|p aA<|p aA<|nl<|ej<|ek<|ek<|eS<|rg aa<|p (aG (str s) aa)<|p (db u9 aa aa)<|p (gt aa aa)<|nl<|ej<|eS<|cd aa (fun bx=> ?_) fun bx=> ?_
 refine sq fun aO ah=>rg aa<|p aA<|p aA<|nl<|tn<|ah _ _<|rt<|prt<|Bz aa aa aa ?_
 have U:65536 < s.length:=ab
 exact ⟨⟨.slice none 0 0,by show iT #[.slice none 0 0,.int .i64 10]=_; rw [if_pos U],by rw [if_pos U]⟩,Md.refl _ _⟩
 refine aM<|ej<|ek<|eS<|rg aa<|e<|gR RT fun am b3 cf bs aR=>nl<|ej<|ek<|ek<|eS<|rg aa<|p (aG (str s) aa)<|e<|cl Ag (tq s _) aa fun cs ar bt=> ?_
 obtain ⟨ay,rfl,cc,aQ,aU⟩:=bt
 have Z:Wk w ar:=Md.trans bs.md aU
 have cn:am < b3.heap.size:=(cg.1 aR).1
 have bv:=aU.aB aR
 have ce:=(cg.1 aQ).1
 have U:s.length≤65536:=ab
 refine nl<|ej ?_
 apply DN (tt) (ig 1<|cJ s) (fun W=>W.heap[ay]? =some (.cells [str s].toArray 9 (0,0))) (fun pre J=> ∃ v vs,J.heap[am]? =some (.cells [v].toArray 187 (0,0))∧bm J ar.heap.size 209 2 v (j7 1<|pre.map ll).length (kF vs)∧gk J ar.heap.size 9 vs (j7 1<|pre.map ll)∧J.heap[ay]? =some (.cells [str s].toArray 9 (0,0))∧ar.heap.size≤J.heap.size∧Wk w J) rfl Ao (fun _=>rfl) (tp s ay U) (⟨.slice none 0 0,[],bv,dI _ _ _ _,gk.nil _ _ _,aQ,bX _,Z⟩) (fun _ _ ⟨_,_,_,_,_,h,_⟩=>h) (fun pre A C F ⟨v,vs,h1,h2,bb,h3,h5,h4⟩ hm ag=>⟨v,vs,ur h1 hm ag,Ec h2 hm ag,bb.md hm (fun k hk cur z=>(ag k hk).2 cur _ z),ur h3 hm ag,eV h5 hm.size,Ed h4 hm Z.size ag⟩)
 intro l x J K ac
 exact sq fun aO ah=>rg aa<|p (bY (.int .i64 x.1) aa)<|nl<|tn<|ah _ _<|rg aa<|p (bY (str x.2) aa)<|nl<|tn<|ac
 intro l pre x rest J bW aE
 obtain ⟨v,vs,aK,ak,ao,aJ,aq,aD⟩:=aE
 obtain ⟨cm,b0,b1⟩:=x7 bW
 have cj:=oF s
 have co:=(cg.1 aJ).1
 have cq:x.2.length≤s.length:=CX<|by rw [b1]; simp
 have ci:=xo x.2 []
 have bH:=DO (pre.map ll) 1
 rw [eJ] at bH
 refine aB<|sq fun aO ah=>rg aa<|p mv<|e<|cl HA (Lz x.2 _ ab) aa fun ct a5 bu=> ?_
 obtain ⟨aj,bg⟩:=bu
 obtain ⟨E,an,rfl⟩:=cR aj
 have aZ:=(aT aj).2
 have bz:=(aT aj).1
 refine p aA<|nl<|tn<|ah _ _ ?_
 refine ep (fun ax av=> ∃ (n cp:Nat),(n≤(da [] x.2).length)∧(n≤cp)∧(mU (da [] x.2)=(da [] x.2).take n)∧(Wk a5 av)∧(ax 4= .pointer (some ⟨am,0,none⟩))∧(ax 5= .int .i64 x.1)∧(ax 7= .slice E n cp)) ?_ ?_
 refine sq fun a8 aF=>rg aa<|p mv<|p (bO gP aa aa)<|p mv<|nl<|tn<|aF _ _<|aB<|lp (fun aP Y a7=> ∃ (i:Nat),(i≤(da [] x.2).length)∧(∀ q,q < i→tW ((da [] x.2).getD q [])=false)∧(Wk a5 a7)∧(Y 4= .pointer (some ⟨am,0,none⟩))∧(Y 5= .int .i64 x.1)∧(Y 7= .slice E (da [] x.2).length an)∧(Y 19= .slice E (da [] x.2).length an)∧(Y 20= .int .i64 (da [] x.2).length)∧(Y 21= .int .i64 i)∧((da [] x.2).length - i=aP)) _ ⟨0,ab,(fun q bG=>by omega),(Md.refl _ _),aa,aa,aa,aa,aa,aa,aa⟩ ?_
 rintro aP Y a7 ⟨i,hi,aN,ae,bT,bU,bV,bN,bP,bQ,rfl⟩
 refine fx 4 bT<|fx 5 bU<|fx 7 bV<|fx 19 bN<|fx 20 bP<|fx 21 bQ<|sq fun b5 bk=>rg aa<|p (lt aa aa)<|nl<|tn<|bk _ _<|sq fun b6 bl=>cd aa (fun bB=> ?_) fun bB=> ?_
 refine aM<|tn<|bl _ _<|sq fun b7 bo=>aB<|sq fun b8 bp=>rg aa<|p (aG (.int .i64 i) aa)<|p (aW dD aa aa ab<|aC.ok (aZ.wk ae)<|cK ab)<|p (ld cG aa<|cX.get (i:=i) (aZ.wk ae) ab)<|p (bY (.int .i64 i) aa)<|p aA<|nl<|tn<|bp _ _<|sq fun b9 bq=>rg aa<|p mv<|p (lE 0 u9 aa aa<|mB.2 (BY _ _ _<|Mr ab).1)<|p (bS aa aa)<|nl<|tn<|bq _ _<|cd aa (fun bC=> ?_) fun bC=> ?_
 exact sq fun ca br=>rg aa<|p (aG (.slice E (da [] x.2).length an) aa)<|p (aG (.int .i64 i) aa)<|p (aG (.int .i64 i) aa)<|p (Jc dD aa aa aa ab)<|p aA<|nl<|tn<|br _ _<|ext<|lz aw<|te _<|te _<|be<|tn<|⟨i,i,hi,(bX _),(CK hi aN<|.inr<|decide_eq_true ab),ae,aa,aa,aa⟩
 exact aM<|bn<|tn<|bo _ _<|rg aa<|p (ad aa aa<|bR ab)<|p mv<|nl<|tn<|⟨_,ab,i+1,ab,(fun q bG=>by rcases gC q i with h | h <;> first | exact aN q h | (rw [show q=i by omega]; exact decide_eq_false ab)),ae,aa,aa,aa,aa,aa,aa,aa⟩
 exact ext<|te _<|te _<|be<|tn<|⟨(da [] x.2).length,an,(bX _),bz,(by have h:=CK hi aN (.inl ab); rwa [show i=(da [] x.2).length from by omega] at h),ae,aa,aa,aa⟩
 rintro ax av ⟨n,cp,hn,bE,a1,az,bK,bL,bM⟩
 refine fx 4 bK<|fx 5 bL<|fx 7 bM ?_
 have G:Wk J av:=Md.trans bg az
 have aI:=G.aB aK
 have a3:=aV ak G
 have a4:=ao.wk G
 have a0:=G.aB aJ
 have aS:Wk w av:=Md.trans aD G
 refine sq fun a8 aF=>rg aa<|p (aG (.slice E n cp) aa)<|p (bO gP aa aa)<|p (gt aa aa)<|nl<|tn<|aF _ _<|cd aa (fun bD=> ?_) fun bD=> ?_
 have al:nI x.2 (1 +pre.length)= [(x.1,(da [] x.2).take n)]:=by unfold nI; rw [a1,if_neg (fun h=>by have h:=congrArg kM h; rw [dT,gj] at h; omega),← b0]
 refine rg aa<|p (ld pd aa<|(aX aI).trans aa)<|p (aG (.int .i64 x.1) aa)<|p (aG (.slice E n cp) aa)<|p (cE (ps:= [(0,.int .i64 x.1),(1,.slice E n cp)]) (L:= [.int .i64 x.1,.slice E n cp]) Qw aa<|aa)<|e<|nB D7 aa aa aa fun a9 a6 aH I bc=> ?_
 have bd:bA a6.heap a9 [.int .i64 x.1,.slice E n cp]:=bc
 have bh:Wk w a6:=Md.trans aS I.md
 have V:=aV a3 I.md
 have aH:=I.md.aB aI
 refine e<|ap D7 (V) aa (by have :=I.size; have :=G.size; omega) aa (aC.fO bd) (aa) (aa) ab ab fun b2 cu aL M cr ch=> ?_
 have bi:=Wk.own bh V M Z.size
 have bw:=M.aB (I.md.aB a0) fun h=>by have :=dd V h; omega
 have ai:=M.aB aH fun h=>dp V aH aw h
 have bI:=(a4.wk I.md).md M<|iG V aw
 have a2:=bZ (aV (aV aj az) I.md) M fun k hk=>mi (aV (aV aj az) I.md) V aw hk
 refine e<|dA A4 aa aa (eb aL) ai (by simp) fun b4 O bf=> ?_
 have bj:Wk w b4:=Md.trans' bi O fun k hk h=>by omega
 have bJ:=(bI.md O<|gn ai aw).snoc (n:=x.1) (r:=(da [] x.2).take n) (v:= .slice E n cp)<|by rw [dT,Nat.min_eq_left hn,List.map_take]; exact (Tg.jP<|eD (bZ a2 O fun k hk h=>dp a2 ai aw<|h ▸ hk) aq).clip bE
 exact nl<|bn<|⟨(e6.wk G).trans ((e6.wk I.md).trans<|(e6.md M<|mY V).trans<|e6.md O fun k hk=>⟨_,_,_,hk ▸ ai⟩),b2,vs++ [(x.1,.slice E n cp)],bf,(by rw [iK,show [x].map ll= [x.2] from aa,tX,eJ,al]; rw [bF,PX]; exact bZ aL O fun k hk h=>dp aL ai aw<|h ▸ hk),(by rw [iK,show [x].map ll= [x.2] from aa,tX,eJ,al]; exact bJ),O.aB bw (fun h=>by omega),eV aq (eV G.size<|eV I.md.size<|eV M.size O.size),bj⟩
 have al:nI x.2 (1 +pre.length)= []:=by unfold nI; rw [a1,if_pos (by rw [show n=0 by omega]; rfl)]
 exact aM<|bn<|⟨e6.wk G,v,vs,aI,(by rw [iK,show [x].map ll= [x.2] from aa,tX,eJ,al]; rw [dS]; exact a3),(by rw [iK,show [x].map ll= [x.2] from aa,tX,eJ,al]; rw [dS]; exact a4),a0,eV aq G.size,aS⟩
 intro D J cb aE ac
 obtain ⟨v,vs,aK,ak,ao,aJ,aq,aD⟩:=aE
 have ck:=(cg.1 ac).1
 refine ej<|ek<|eS<|rg aa<|p (ld pd aa<|(aX aK).trans aa)<|p aA<|p aA<|nl<|ej<|rQ<|BA aa aa aa ac ?_
 have U:¬65536 < s.length:=ab
 rw [x8] at ak ao
 exact ⟨⟨v,by show iT #[v,.int .i64 0]=_; rw [if_neg U],by rw [if_neg U]; exact ⟨vs,eD (bZ ak (k0 _ _ _) fun k hk h=>by obtain ⟨c,e,z,h1⟩:=mY ak k hk; rw [h,ac] at h1; cases h1) Z.size,(ao.md (k0 _ _ _) fun k hk cur z=>by rw [hk,ac]; simp).mono Z.size⟩⟩,Md.trans' aD (k0 _ _ _) fun k hk h=>by have :=Z.size; omega⟩
end Go.Hb
end
section
namespace Go.Hb.jj
open Go.Hb.sJ
theorem ry {eof ln:Nat} {F F':aE} {hs:List Tx} {rows rows':List Rw} {row:List Tx} (a:bN eof F hs rows ln row= .ok (F',rows')):rows'.length≤rows.length:=by
 unfold bN at a
 repeat' split at a
 · unfold je at a; split at a; cases a; cases a; exact bX _
 · unfold jM at a; repeat' split at a
   all_goals first | (cases a; done) | (cases a; exact bX _)
 · unfold lI at a; split at a; cases a; cases a; exact bX _
 · unfold lK at a; split at a; cases a; cases a; exact bX _
 · unfold jN at a; repeat' split at a
   all_goals first | (cases a; done) | (cases a; exact bX _)
 · unfold jQ at a; repeat' split at a
   all_goals first | (cases a; done) | (cases a; exact (tM _ _ _<|by assumption).1)
 · unfold jn at a; repeat' split at a
   all_goals first | (cases a; done) | (cases a; exact (tM _ _ _<|by assumption).1)
 · unfold gp at a; repeat' split at a
   all_goals first | (cases a; done) | (cases a; exact (tM _ _ _<|by assumption).1)
theorem DM {eof k:Nat} {F:aE} {hs:List Tx} :fP eof k F hs []= .ok F:=by cases k <;> simp [fP]
section
variable {eof k n:Nat} {F:aE} {hs:List Tx} {r:List Tx} {rest:List Rw} {T:Except (Nat×Nat) aE} (h:fP eof k F hs ((n,r)::rest)=T) (hk:rest.length+1≤k)
include h hk
theorem Po (a:width (r.getD 0 [])=0):T= .error (n,110):=by
 obtain ⟨m,rfl⟩:∃ m,k=m+1:=⟨k - 1,ab⟩
 rw [← h,fP,if_pos a]
theorem Pp (a:width (r.getD 0 [])≠0) (h1:r.length≠width (r.getD 0 [])):T= .error (n,111):=by
 obtain ⟨m,rfl⟩:∃ m,k=m+1:=⟨k - 1,ab⟩
 rw [← h,fP,if_neg a,if_pos h1]
theorem DJ (a:width (r.getD 0 [])≠0) (h1:r.length=width (r.getD 0 [])) (h2:width (r.getD 0 [])≠4) (h3:r.getD 0 []∈hs):T= .error (n,112):=by
 obtain ⟨m,rfl⟩:∃ m,k=m+1:=⟨k - 1,ab⟩
 have hw:width (r.getD 0 [])=2:=by
  unfold width at a h2 ⊢
  split
  · rfl
  · rename_i hn
    rw [if_neg hn] at a h2
    split at h2
    · exact absurd aa h2
    · rename_i c; rw [if_neg c] at a; exact absurd rfl a
 rw [← h,fP,if_neg a,if_neg (fun h4=>h4 h1),if_pos ⟨hw,h3⟩]
theorem DK {e:Nat×Nat} (a:width (r.getD 0 [])≠0) (h1:r.length=width (r.getD 0 [])) (h2:width (r.getD 0 [])=2→r.getD 0 []∉hs) (h3:bN eof F hs rest n r= .error e):T= .error e:=by
 obtain ⟨m,rfl⟩:∃ m,k=m+1:=⟨k - 1,ab⟩
 rw [← h,fP,if_neg a,if_neg (fun h4=>h4 h1),if_neg (fun h4=>h2 h4.1 h4.2),h3]
theorem DL {F':aE} {rows':List Rw} (a:width (r.getD 0 [])≠0) (h1:r.length=width (r.getD 0 [])) (h2:width (r.getD 0 [])=2→r.getD 0 []∉hs) (h3:bN eof F hs rest n r= .ok (F',rows')):fP eof (k - 1) F' (hs++ [r.getD 0 []]) rows'=T∧rows'.length≤k - 1:=by
 obtain ⟨m,rfl⟩:∃ m,k=m+1:=⟨k - 1,ab⟩
 refine ⟨?_,by have :=ry h3; omega⟩
 rw [← h,fP,if_neg a,if_neg (fun h4=>h4 h1),if_neg (fun h4=>h2 h4.1 h4.2),h3]; rfl
end
theorem GM {s:Tx} (h:65536 < s.length):e7 s= .error (0,10):=by unfold e7; rw [if_pos h]
theorem o8 {s:Tx} {e:Nat×Nat} (h:¬65536 < s.length) (h1:fP ((cJ s).length+1) (ec s).length gH [] (ec s)= .error e):e7 s= .error e:=by unfold e7; rw [if_neg h,h1]
theorem GL {s:Tx} {F:aE} {q:cW} (h:¬65536 < s.length) (h1:fP ((cJ s).length+1) (ec s).length gH [] (ec s)= .ok F) (h2:F.rules.find? (l0 F)=some q):e7 s= .error (q.line,118):=by unfold e7; rw [if_neg h,h1]; simp only; rw [h2]
theorem GN {s:Tx} {F:aE} (h:¬65536 < s.length) (h1:fP ((cJ s).length+1) (ec s).length gH [] (ec s)= .ok F) (h2:F.rules.find? (l0 F)=none):e7 s= .ok F:=by unfold e7; rw [if_neg h,h1]; simp only; rw [h2]
def nG (s:Tx):Value:=match fF s with | some (.agg cs)=>cs.getD 1 .nilFunc | _=> .nilFunc
theorem MN (s:Tx):(fF s).getD (.agg #[.int .i64 0,.nilFunc])= .agg [.int .i64 (width s:Nat),nG s].toArray∧(fF s).isSome=decide (width s≠0):=by
 rcases xJ s with h | ⟨wd,f,h,hw,a⟩
 · have a:=Cw h
   unfold nG
   rw [h,a]; exact ⟨rfl,rfl⟩
 · unfold nG
   rw [h,hw,decide_eq_true a]; exact ⟨rfl,rfl⟩
theorem MS (s:Tx):[gA .i64 (width s:Nat),nG s].all eH=true :=by
 rcases xJ s with h | ⟨wd,f,h,hw,a⟩ <;> unfold nG <;> rw [h] <;> rfl
theorem Cv {s:Tx} (h:width s≠0):∃ v,fF s=some v∧∀ (wd:Nat) (f:Nat),v= .agg [.int .i64 (wd:Nat),.func (.func f) #[] #[]].toArray→nG s= .func (.func f) #[] #[]:=by
 rcases xJ s with h1 | ⟨wd,f,h1,hw,c⟩
 · exact absurd (Cw h1) h
 · refine ⟨_,h1,fun i a he=> ?_⟩
   unfold nG
   rw [h1,he]; rfl
theorem DY {f:Value→Option Value} {seen:List Tx} (k:Tx) (a:∀ s:Tx,(f<|str s).getD (.int .i64 0)= .int .i64 (seen.count s:Nat)) (s:Tx):(bw f (str k) (.int .i64 (seen.count k+1:Nat))<|str s).getD (.int .i64 0)= .int .i64 ((seen++ [k]).count s:Nat):=by
 rw [List.count_append]
 by_cases h:s=k
 · subst h; rw [rL]; simp
 · rw [pZ (fun h2=>h<|str_inj.1 h2),a s,List.count_singleton,show (k==s)=false from by simpa using fun h2=>h h2.symm]; rfl
theorem bU.DX {w w':World} {B:Nat} {H:bP} {F:aE} {R:fk} {rows:List Rw} {ln:Nat} {seen i:List Tx} {f:Value→Option Value} (h:bU w B H F R rows ln seen) (hm:Md (fun k=>k=H.ms) w w') (q:bQ w'.heap H.ms gv f) (hd:∀ s:Tx,(f<|str s).getD (.int .i64 0)= .int .i64 (i.count s:Nat)):bU w' B H F R rows ln i:=by
 obtain ⟨g,C,E⟩:=h.tm
 obtain ⟨f0,A,_⟩:=h.sm
 have a:TF w [1] (fun k=>k=H.ms):=TF.eq (dj A) aw
 exact ⟨hm.iY a h.cells aw,h.rws.md hm (fun k hk cur z c=>a.no (di c) aw hk),h.rt.md hm (fun k hk cur z c=>a.no (di c) aw hk),⟨f,q,hd⟩,⟨g,C.md hm (fun h2=>h.ne.1 h2.symm),E⟩,cM h.on hm a aw,h.lo,h.ne⟩
theorem cD.ms {w w':World} {B:Nat} {H:bP} {F a:aE} {V:dG} {R:fk} {rows:List Rw} {ln:Nat} {seen:List Tx} (h:cD w B H.fb H.mc a V) (c:bU w B H F R rows ln seen) (hm:Md (fun k=>k=H.ms) w w'):cD w' B H.fb H.mc a V:=by
 obtain ⟨g,i,_⟩:=c.sm
 exact h.md (L:= [1]) hm (TF.eq (dj i) aw) aw fun h=>c.ne.2.1 h.symm
theorem dU.ms {w w':World} {B:Nat} {H:bP} {F:aE} {R:fk} {rows:List Rw} {ln:Nat} {seen:List Tx} (a:bU w B H F R rows ln seen) (hm:Md (fun k=>k=H.ms) w w'):dU B H w w':=hm.mono fun k _ hk=>⟨hk ▸ a.lo.2.1,.inl hk⟩
structure mH (w0 w:World) (H:bP) (b2 b3 bt:Nat):Prop where
 c2:w.heap[b2]? =some (.cells [.pointer none].toArray 60 (0,0))
 c3:w.heap[b3]? =some (.cells [.int .i64 0,.int .i64 0,.int .i64 0].toArray 47 (0,0))
 lo:w0.heap.size≤b2∧w0.heap.size≤b3∧b2≠b3
 tb:∃ f,bQ w.heap bt gv f∧∀ s,f (str s)=fF s
 ne:bt≠H.ms∧bt≠H.mt∧bt≠H.mc
 wk:Wk w0 w
theorem mH.md {q w w':World} {H:bP} {a c i:Nat} (h:mH q w H a c i) (hm:Wk w w'):mH q w' H a c i:=by
 obtain ⟨f,A,C⟩:=h.tb
 exact ⟨Wk.aB hm h.c2,Wk.aB hm h.c3,h.lo,⟨f,A.wk hm,C⟩,h.ne,h.wk.trans hm⟩
theorem mH.mw {a w w':World} {H:bP} {c i q:Nat} {F:aE} {R:fk} {V:dG} {rows:List Rw} {ln:Nat} {seen:List Tx} (h:mH a w H c i q) (E:cD w a.heap.size H.fb H.mc F V) (A:bU w a.heap.size H F R rows ln seen) (hm:dU a.heap.size H w w'):mH a w' H c i q:=by
 obtain ⟨f,C,I⟩:=h.tb
 obtain ⟨f1,G,_⟩:=A.sm
 obtain ⟨f2,J,_⟩:=A.tm
 obtain ⟨f3,M,_⟩:=E.cm
 have hn:=fun e (O:([197,127,130,72,133,79,5]:List Nat).contains (e+2)=false)=>Wr.ne (B:=a.heap.size) (dj G) (dj J) (dj M) O
 refine ⟨hm.aB h.c2 (fun hk=>hn 60 aw _ hk _ _ h.c2),hm.aB h.c3 (fun hk=>hn 47 aw _ hk _ _ h.c3),h.lo,⟨f,C.md hm ?_,I⟩,h.ne,hm.wk h.wk<|bX _⟩
 rintro ⟨_,h1 | h1 | h1 | h1⟩
 · exact h.ne.1 h1
 · exact h.ne.2.1 h1
 · exact h.ne.2.2 h1
 · rw [dj C] at h1; exact absurd h1 aw
def Gu (w':World) (B:Nat) (F:aE) (v:Value):Prop := ∃ fb mc V,v= .tuple #[.pointer (some ⟨fb,0,none⟩),.agg [.int .i64 0,.int .i64 0,.int .i64 0].toArray]∧cD w' B fb mc F V∧(∃ seen,iV F [] seen)∧Nx F
def Gt (e:Nat×Nat) (v:Value):Prop :=v= .tuple #[.pointer none,.agg [.int .i64 1,.int .i64 (e.1:Nat),.int .i64 (e.2:Nat)].toArray]
def mJ (s:Tx) (w:World) (v:Value) (w':World):Prop :=(match e7 s with | .ok F=>Gu w' w.heap.size F v | .error e=>Gt e v)∧Wk w w'
theorem mJ.no {s:Tx} {w w':World} {l e:Nat} (h:e7 s= .error (l,e)) (hm:Wk w w'):mJ s w (.tuple #[.pointer none,.agg [.int .i64 1,.int .i64 (l:Nat),.int .i64 (e:Nat)].toArray]) w':=by
 unfold mJ; rw [h]; exact ⟨rfl,hm⟩
theorem oK {n:Nat} {G:List Nat} {fn:Func} {σ:Nat→Value} {s:Tx} {w W:World} {H:bP} {c i q l e:Nat} (C:fn.results= #[.cell 2 60,.cell 3 47]) (A:3 < n) (E:σ 2= .pointer (some ⟨c,0,none⟩)) (I:σ 3= .pointer (some ⟨i,0,none⟩)) (a:mH w W H c i q) (J:e7 s= .error (l,e)):qb ⟨n,[{target:= .fn (.func 82) #[.pointer (some ⟨c,0,none⟩),.pointer (some ⟨i,0,none⟩)],args:= #[]}],G,none⟩ (nv au fn<|mJ s w) (.panic<|gr 47 l (e:Nat)) σ W:=
 Pr C A E I ⟨_,a.c2⟩ ⟨_,rfl,a.c3⟩ a.lo.2.2 (fun w' hm=>mJ.no J<|a.wk.trans' hm fun k hk h=>by rcases h with rfl | rfl; have :=a.lo.1; omega; have :=a.lo.2.1; omega)
theorem Kt {x:Nat} (h:x≠0):dJ gH x=false :=by
 unfold dJ gH dm
 simp [h]
theorem Wk.dr {w:World} :Wk w w.drew:=(Md.refl _ _).drew
theorem GK (s:Tx) (w:World) (hs:s.length≤1048576):
 ba au 45 (aY [str s]) w (mJ s w):=by
 refine Lg [2,3] func45 aa ntmps45 aa ?_
 refine ek<|eS<|rg aa<|e<|gR RZ fun aN fm eJ ct cY=>e<|gR mu fun aO et eM bt c7=> ?_
 have e2:=ct.size
 have e6:=bt.size
 have df:Wk w et:=ct.md.trans bt.md
 have d3:=Wk.aB bt.md cY
 refine nl<|ej<|ek<|eS<|rg aa<|p (aG (str s) aa)<|e<|cl AL (DR s _ hs) aa fun ff fl dE=> ?_
 obtain ⟨⟨eF,rfl,cx⟩,hE15⟩:=dE
 have cg:=df.trans hE15
 have cF:=Wk.aB hE15 d3
 have cH:=Wk.aB hE15 c7
 have e1:=hE15.size
 refine p mv<|p (xt aa aa)<|p (xt aa aa)<|p aA<|p aA<|nl<|ej<|ek<|ek<|eS<|rg aa<|p mv<|p (gO aa aa)<|nl<|ej<|eS<|cd aa (fun bB=> ?_) fun bB=> ?_
 have cw:65536 < s.length:=uO fun h=>bB<|by rw [if_neg h]
 exact sq fun cN bo=>rg aa<|p mv<|p (cE (ps:= [(0,.int .i64 1),(2,.int .i64 (if 65536 < s.length then 10 else 0))]) (L:= [.int .i64 1,.int .i64 0,.int .i64 (if 65536 < s.length then 10 else 0)]) p5 aa<|aa)<|e<|dA wu aa aa (v:= .pointer none) aa cF aw fun fv cq da=>e<|ga gS aa aa aa aa (cq.aB cH fun h=>by omega) aw fun fy cs db=>nl<|tn<|bo _ _<|rt<|prt<|Lw (tY aa (k5<|yw aa aa<|(aX<|cs.aB da fun h=>by omega).trans aa)<|k5<|dy aa aa aa fun j eT=>by rw [fj,aX db,if_pos cw]; simp)<|mJ.no (GM cw)<|(cg.trans' cq fun k hk h=>by omega).trans' cs fun k hk h=>by omega
 have am:¬65536 < s.length:=fun h=>bB<|by rw [if_pos h]; decide
 rw [if_neg am] at cx
 obtain ⟨vs,cB,d4⟩:=cx
 obtain ⟨ar,cr,rfl⟩:=cR cB
 refine aM<|ej<|ek<|eS<|rg aa<|p (aG (str s) aa)<|e<|cl AM (Ea s _ hs) aa fun v24 cM dF=> ?_
 obtain ⟨⟨a24,rfl,cy⟩,hE24⟩:=dF
 rw [if_neg am] at cy
 obtain ⟨fb,pz,rfl⟩:=cR cy
 have de:=cg.trans hE24
 have eU:=oF s
 have e3:=hE24.size
 refine p mv<|p (xt aa aa)<|p (xt aa aa)<|p aA<|p aA<|nl<|ej<|ek<|eS<|rg aa<|e<|rF fun M fq eK cu c1=> ?_
 have e4:=cu.size
 refine p (cE (ps:= [(1,.map (some M))]) (L:= [.int .i64 0,.string ⟨⟨[]⟩⟩,.string ⟨⟨[]⟩⟩,.int .u16 0,.int .u16 0,.int .u16 0,.int .u16 0,.int .u16 0,.int .i64 0,.slice none 0 0,.slice none 0 0,.slice none 0 0,.slice none 0 0,.map (some M)]) Qr aa<|aa)<|e<|qO aa fun I fr eL bs c5=> ?_
 have e5:=bs.size
 refine p mv<|p mv<|p (bO gP aa aa)<|p (bG (((cJ s).length+1:Nat):Int) aa aa<|bd ab ab)<|e<|rF fun U ft eN bg c8=> ?_
 have e7:=bg.size
 refine e<|rF fun Y fu eO a0 c9=> ?_
 have e8:=a0.size
 refine p (cE (ps:= [(0,.pointer (some ⟨I,0,none⟩)),(1,.slice ar (ec s).length cr),(3,.int .i64 ((cJ s).length+1:Nat)),(4,.map (some U)),(5,.map (some Y))]) (L:= [.pointer (some ⟨I,0,none⟩),.slice ar (ec s).length cr,.int .i64 0,.int .i64 ((cJ s).length+1:Nat),.map (some U),.map (some Y),.slice none 0 0]) Qv aa<|aa)<|e<|qO aa fun A aK eQ aR bl=> ?_
 have e9:=aR.size
 have dT:=Wk.aB (bg.md.trans<|a0.md.trans aR.md) c5
 refine p aA<|nl<|ej<|ek<|eS ?_
 have ah:(fun w'=>Md (fun k=>k=I) aK w') aK.drew:=(Md.refl _ _).drew
 refine bK (fun w'=>Md (fun k=>k=I) aK w') aa wide ah<|hp 0 aa ag (fun _ _=>mv) ah<|hp 1 aa ag (fun _ _=>nc aa) ah<|hp 2 aa ag (fun _ _=>fa fw aa) ah<|hp 3 aa ag (fun w' J=>ld ed aa<|Md.aH J ((aX bl).trans aa) fun h=>by omega) ah<|hp 4 aa ag (fun _ _=>mv) ah<|hp 5 aa ag (fun _ _=>nc aa) ah<|hp 6 aa ag (fun _ _=>fa fw aa) ah<|hp 7 aa ag (fun w' J=>ld ed aa<|Md.aH J ((aX bl).trans aa) fun h=>by omega) ah<|hp 8 aa ag (fun _ _=>nc aa) ah<|hp 9 aa ag (fun _ _=>fa eZ aa) ah<|hp 10 aa ag (fun _ _=>fa pO aa) ah<|he 11 aa ag<|dA kW aa aa (v:= .int .i64 (1:Nat)) aa dT (by show 0 +0 +0 < 14; decide) fun ew dv dc=> ?_
 have a1:(fun w'=>Md (fun k=>k=I) aK w') ew:=ah.trans' dv fun _ _ h=>h
 refine ⟨a1,?_⟩
 refine hp 12 aa ag (fun _ _=>nc aa) a1<|hp 13 aa ag (fun _ _=>fa eZ aa) a1<|hp 14 aa ag (fun _ _=>fa xy aa) a1<|he 15 aa ag<|dA kW aa aa (v:= .int .i64 (3:Nat)) aa dc (by show _ < 14; decide) fun ex dw dd=> ?_
 have bA:(fun w'=>Md (fun k=>k=I) aK w') ex:=a1.trans' dw fun _ _ h=>h
 refine ⟨bA,?_⟩
 refine hn ag<|ej<|ek<|KD NJ #[.pointer (some ⟨aN,0,none⟩),.pointer (some ⟨aO,0,none⟩)] aa aw ?_
 refine ek<|eS<|rg aa<|e<|cl IK (MQ _) aa fun v53 ak dJ=> ?_
 obtain ⟨aD,rfl,eR,ef,ch⟩:=dJ
 have dg:Wk cM aK:=cu.md.trans<|bs.md.trans<|bg.md.trans<|a0.md.trans aR.md
 have aQ:Md (fun k=>k=I) aK ak:=bA.trans' ch fun _ _ h=>h.elim
 have aZ:Wk cM ak:=Md.trans' dg aQ fun k hk h=>by omega
 have eY:=aQ.size
 have dh:=de.trans aZ
 have dQ:ak.heap[I]? =some (.cells (l8 gH ⟨.slice none 0 0,.slice none 0 0,.slice none 0 0,.slice none 0 0,[],[]⟩ M).toArray 125 (0,0)):=Wk.aB ch dd
 have dS:ak.heap[A]? =some (.cells (rO (⟨A,I,U,Y,M,(cJ s).length+1⟩:bP) ⟨.slice ar (ec s).length cr,vs,.slice none 0 0⟩ 0).toArray 195 (0,0)):=aQ.aB bl fun h=>by omega
 have dY:bQ ak.heap M (mT .u16) (fun _=>none):=bQ.md (bQ.wk (bQ.nil c1)<|bs.md.trans<|bg.md.trans<|a0.md.trans aR.md) aQ fun h=>by omega
 have dZ:bQ ak.heap U gv (fun _=>none):=bQ.md (bQ.wk (bQ.nil c8)<|a0.md.trans aR.md) aQ fun h=>by omega
 have d0:bQ ak.heap Y (mT .u16) (fun _=>none):=bQ.md (bQ.wk (bQ.nil c9) aR.md) aQ fun h=>by omega
 have dk:cD ak w.heap.size I M gH ⟨.slice none 0 0,.slice none 0 0,.slice none 0 0,.slice none 0 0,[],[]⟩:=⟨dQ,dI _ _ _ _,dI _ _ _ _,c4.nil _ _ _,dI _ _ _ _,dI _ _ _ _,c4.nil _ _ _,⟨_,dY,fun _=>rfl⟩,⟨ab,ab⟩,rfl⟩
 have dz:bU ak w.heap.size (⟨A,I,U,Y,M,(cJ s).length+1⟩:bP) gH ⟨.slice ar (ec s).length cr,vs,.slice none 0 0⟩ (ec s) 0 []:=⟨dS,(((Tg.jP cB).mono ab).wk<|hE24.trans aZ).QW,(d4.mono ab).wk (hE24.trans aZ),⟨_,dZ,fun _=>rfl⟩,⟨_,d0,fun x b6=>by rw [Kt b6]; rfl⟩,dI _ _ _ _,⟨by show w.heap.size≤A; omega,by show w.heap.size≤U; omega,by show w.heap.size≤Y; omega⟩,⟨by show U≠Y; omega,by show U≠M; omega,by show Y≠M; omega⟩⟩
 have eX:=DP s
 have dN:St ak w.heap.size (⟨A,I,U,Y,M,(cJ s).length+1⟩:bP) gH (ec s) 0 []:=⟨_,_,dk,dz,⟨by show 0 +0 +0 +0 +(ec s).length≤70000; omega,by show 0 +(ec s).length≤70000; omega,fun q bZ=>by have h:=DQ bZ; exact ⟨h.2.2.1,ab,fun x b6=>by have :=(h.2.2.2.2 x b6).2; omega⟩,.inl rfl,fun l a7=>by cases a7⟩⟩
 have ee:iN gH []:=fun k hk _=>by have h:∀ k∈fg,gH.sp.getD (fg.idxOf k) 0=0:=aw
                                  exact h k hk
 have d1:Nx gH:=⟨fun l a7=>(by cases a7),fun l a7=>by cases a7⟩
 have e0:=bA.size
 have d2:mH w ak (⟨A,I,U,Y,M,(cJ s).length+1⟩:bP) aN aO aD:=⟨Wk.aB (hE24.trans aZ) cF,Wk.aB (hE24.trans aZ) cH,⟨ab,ab,ab⟩,ef,⟨by show aD≠U; omega,by show aD≠Y; omega,by show aD≠M; omega⟩,dh⟩
 refine p aA<|nl<|ej<|ek<|eS<|aB<|lp (fun ce bc a9=> ∃ (k:Nat) (F:aE) (rows:List Rw) (ln:Nat) (seen:List Tx),(fP (⟨A,I,U,Y,M,(cJ s).length+1⟩:bP).eof k F seen rows=fP ((cJ s).length+1) (ec s).length gH [] (ec s))∧(rows.length≤k)∧(St a9 w.heap.size (⟨A,I,U,Y,M,(cJ s).length+1⟩:bP) F rows ln seen)∧(iN F seen)∧(Nx F)∧(mH w a9 (⟨A,I,U,Y,M,(cJ s).length+1⟩:bP) aN aO aD)∧(bc 2= .pointer (some ⟨aN,0,none⟩))∧(bc 3= .pointer (some ⟨aO,0,none⟩))∧(bc 8= .pointer (some ⟨A,0,none⟩))∧(bc 9= .map (some aD))∧(rows.length=ce)) _ ⟨(ec s).length,gH,ec s,0,[],aa,(bX _),dN,ee,d1,d2,aa,aa,aa,aa,aa⟩ ?_
 rintro ce bc a9 ⟨k,F,rows,ln,seen,ai,hk,J,bj,bi,bR,d6,d7,d8,d9,rfl⟩
 refine fx 2 d6<|fx 3 d7<|fx 8 d8<|fx 9 d9 ?_
 obtain ⟨V,R,O,aq,aP⟩:=J
 obtain ⟨vr,vs,vn⟩:=R
 obtain ⟨ca,cc,eg⟩:=aq.rws.slice
 obtain rfl :vr= .slice ca rows.length cc:=eg
 refine sq fun cN bo=>sq fun ey dn=>rg aa<|p (aG (.pointer<|some ⟨A,0,none⟩) aa)<|p (nc aa)<|p (fa rj aa)<|p (ld pd aa<|(aX aq.cells).trans aa)<|p (bO uw aa aa)<|p (gt aa aa)<|nl<|tn<|dn _ _<|cd aa (fun bC=> ?_) fun bC=> ?_
 obtain ⟨⟨n,r⟩,rest,rfl⟩:∃ q rest,rows=q::rest:=by
  cases rows with
  | nil=>exact absurd bC<|by simp
  | cons q rest=>exact ⟨q,rest,rfl⟩
 have b3:=aP.row (n,r)<|oY ..
 have dO:=aP.len
 have dP:=aP.sl
 simp only [bT] at dO dP hk
 refine aM<|tn<|bo _ _<|aB<|sq fun ez dp=>rg aa<|p (aG (.pointer<|some ⟨A,0,none⟩) aa)<|e<|cl AN (En w.heap.size (⟨A,I,U,Y,M,(cJ s).length+1⟩:bP) F ⟨.slice ca (rest.length+1) cc,vs,vn⟩ n r rest ln seen a9 aq) aa fun fh eu dK=> ?_
 obtain ⟨⟨R1,dB⟩,hT1,hM1⟩:=dK
 obtain ⟨b9,cb,rfl⟩:=hT1.slice
 have dl:=O.rb aq hM1
 have cA:=bR.mw O aq<|dU.rb aq hM1
 have eW:0 < r.length:=mB.2 b3.1
 have cf:=iV.pG aP
 have cI:=MN<|r.getD 0 []
 obtain ⟨eH,dX,cz⟩:=cA.tb
 refine p aA<|nl<|tn<|dp _ _<|sq fun eA dq=>rg aa<|p (aG (.map<|some aD) aa)<|p mv<|p (aW dD aa aa ab<|aC.ok (hT1.c6.2)<|cK ab)<|p (ld cG aa<|cX.get (i:=0) hT1.c6.2 ab)<|p (C0 kb R8 fZ (dX) aa aa (⟨_,aa⟩) ((congrArg (fun o=>Option.getD o _)<|cz<|r.getD 0 []).trans cI.1)<|(congrArg Option.isSome<|cz<|r.getD 0 []).trans cI.2)<|p mv<|p (xt aa aa)<|p (xt aa aa)<|e<|gR RU fun cT fk eI dx cV=>e<|ga Kl aa aa aa (MS _) cV aw fun b8 du cW=> ?_
 have bf:Wk eu b8:=dx.md.trans' du fun k hk h=>by omega
 have bh:b8.heap[cT]? =some (.cells [.int .i64 (width (r.getD 0 []):Nat),nG (r.getD 0 [])].toArray 202 (0,0)):=cW
 have ay:=dl.wk bf
 have Z:=dB.wk bf
 have aS:=hT1.wk bf
 have az:=cA.md bf
 refine p aA<|nl<|tn<|dq _ _<|sq fun eB ds=>rg aa<|p (aG (.pointer<|some ⟨A,0,none⟩) aa)<|p mv ?_
 refine eP aa (cC fD (fG A n _ 110 b8 Z.dH aw) aa fun v72 ev dL=> ?_) (fun c w' ad aU O=>by
  obtain ⟨rfl,av,rfl⟩:=ad
  exact oK aa aw ((O 2<|.head _).trans aa) ((O 3<|.tail _<|.head _).trans aa) az (o8 am<|Po ai hk<|lf.1<|of_decide_eq_false av))
 obtain ⟨rfl,aj,rfl⟩:=dL
 have aj:width (r.getD 0 [])≠0:=of_decide_eq_true aj
 refine nl<|tn<|ds _ _<|sq fun eC dt=>rg aa<|p (aG (.pointer<|some ⟨A,0,none⟩) aa)<|p mv<|p (bO gP aa aa)<|p (fa B9 aa)<|p (ld bW aa<|(aX bh).trans aa)<|p (bS aa aa) ?_
 refine eP aa (cC fD (fG A n _ 111 ev Z.dH aw) aa fun fi ax dM=> ?_) (fun c w' ad aU O=>by
  obtain ⟨rfl,av,rfl⟩:=ad
  exact oK aa aw ((O 2<|.head _).trans aa) ((O 3<|.tail _<|.head _).trans aa) az (o8 am<|Pp ai hk aj fun h=>of_decide_eq_false av<|by rw [h]))
 obtain ⟨rfl,an,rfl⟩:=dM
 have an:r.length=width (r.getD 0 []):=by have :=of_decide_eq_true an; omega
 refine nl<|tn<|dt _ _<|sq fun eD ck=> ?_
 obtain ⟨fd,ea,eb⟩:=Z.sm
 have C:(fun w'=>Wk ax w') ax.drew:=(Md.refl _ _).drew
 refine bK (fun w'=>Wk ax w') aa wide C<|hp 0 aa ag (fun _ _=>aG (.pointer<|some ⟨A,0,none⟩) aa) C<|hp 1 aa ag (fun _ _=>fa B9 aa) C<|hp 2 aa ag (fun w' J=>ld bW aa<|Wk.aH J<|(aX bh).trans aa) C<|hp 3 aa ag (fun _ _=>bS aa aa) C<|hp 4 aa ag (fun _ _=>mv) C<|js (t:=84) aa (fun a6=> ?_) fun a6=> ?_
 refine ma 5 aa ag aa aa aa aa C<|ma 6 aa ag aa aa aa aa C<|ma 7 aa ag aa aa aa aa C<|ma 8 aa ag aa aa aa aa C<|ma 9 aa ag aa aa aa aa C<|ma 10 aa ag aa aa aa aa C<|ma 11 aa ag aa aa aa aa C<|ma 12 aa ag aa aa aa aa C<|ma 13 aa ag aa aa aa aa C<|hp 14 aa ag (fun _ _=>bI aa) C ?_
 refine pS 15 aa ag aa (cC fD (fG A n _ 112 ax.drew (Wk.aH C Z.dH) aw) aa fun er aL bx=> ?_) (fun c w' ad aU O=>by
  obtain ⟨rfl,av,rfl⟩:=ad
  first
   | exact absurd av aw
   | exact oK rfl aw ((O 2<|.head _).trans rfl) ((O 3<|.tail _<|.head _).trans rfl) (az.md Wk.dr) (o8 am<|DJ ai hk aj an (fun h=>a6<|by rw [h]; rfl)<|lf.1 fun h=>of_decide_eq_false av<|by rw [n6.2 h]; rfl))
 obtain ⟨rfl,b7,a8⟩:=bx
 have aI:width (r.getD 0 [])=2→r.getD 0 []∉seen:=by
  first
   | exact fun h=>absurd a6 ab
   | exact fun _=>n6.1<|by have :=of_decide_eq_true b7; omega
 have E:Wk ax aL:=by rw [a8]; exact Wk.dr
 obtain ⟨el,bM,bJ⟩:=Cv aj
 obtain ⟨cU,b5,bE,bH⟩:=CA w.heap.size (⟨A,I,U,Y,M,(cJ s).length+1⟩:bP) F rest n seen r w.heap.size b9 cb aL ⟨_,_,ay.wk E,Z.wk E,cf⟩ (aS.wk E) b3.2.2 an bj aI ab bM
 have bL:=bJ _ _ b5
 have bz:(fun w'=>Wk ax w') aL:=by rw [a8]; exact C
 refine ⟨bz,?_⟩
 refine hn ag<|tn<|ck _ _<|sq fun cO bp=>rg aa<|p (fa Ca aa)<|p (ld zP aa<|(aX<|Wk.aB E bh).trans<|congrArg some bL)<|p (aG (.pointer<|some ⟨A,0,none⟩) aa)<|p mv ?_
 refine eP aa (ET bE aa bH aa fun ep aJ bv=> ?_) (fun c w' ad aU O=>by
  obtain ⟨l,e,ac,rfl,ap⟩:=ad
  exact oK aa aw ((O 2<|.head _).trans aa) ((O 3<|.tail _<|.head _).trans aa) ((az.md E).mw (ay.wk E) (Z.wk E) ap) (o8 am<|DK ai hk aj an aI ac))
 obtain ⟨rfl,F',rows',ln',ac,⟨cP,bk,aV,ae,ao⟩,ap⟩:=bv
 have bY:=(az.md E).mw (ay.wk E) (Z.wk E) ap
 obtain ⟨em,b0,_⟩:=Z.sm
 obtain ⟨en,b1,_⟩:=Z.tm
 obtain ⟨eo,b2,_⟩:=ay.cm
 have a2:=(aS.wk E).md ap<|Wr.ne (dj<|b0.wk E) (dj<|b1.wk E) (dj<|b2.wk E) aw
 obtain ⟨fs,a4,a5⟩:=ae.sm
 have dR:=qu (a:=r.getD 0 []) (l:=seen)
 have a3:=DL ai hk aj an aI ac
 refine nl<|tn<|bp _ _ ?_
 have G:(fun w'=>Wk aJ w') aJ.drew:=(Md.refl _ _).drew
 refine ei (fun w'=>Wk aJ w') 9 aa wide G<|lq 0 aa ag (fun _ _=>aG (.pointer<|some ⟨A,0,none⟩) aa) G<|lq 1 aa ag (fun _ _=>nc aa) G<|lq 2 aa ag (fun _ _=>fa pN aa) G<|lq 3 aa ag (fun w' J=>ld ph aa<|Wk.aH J<|(aX ae.cells).trans aa) G<|lq 4 aa ag (fun _ _=>mv) G<|lq 5 aa ag (fun _ _=>aW dD aa aa ab<|aC.ok (aC.wk a2.c6.2 G)<|cK ab) G<|lq 6 aa ag (fun w' J=>ld cG aa<|Wk.aH J<|cX.get (i:=0) a2.c6.2 ab) G<|lq 7 aa ag (fun w' J=>me nU mx fZ (bQ.md (a4) J id) aa aa (⟨_,aa⟩)<|a5<|r.getD 0 []) G<|lq 8 aa ag (fun _ _=>bG ((seen.count (r.getD 0 [])+1:Nat):Int) aa aa<|bd ab ab) G<|cQ 9 aa ag ag<|qd nU fZ (a4.wk G) aa aa aa (⟨_,aa⟩) fun bb bq bu=> ?_
 have aF:=gY bq
 have bw:bU bb w.heap.size (⟨A,I,U,Y,M,(cJ s).length+1⟩:bP) F' bk rows' ln' (seen++ [r.getD 0 []]):=bU.DX ae aF bu<|DY _ a5
 have bm:=cD.ms aV ae aF
 have bV:=bY.mw aV ae<|dU.ms ae aF
 have d5:=ry ac
 have G:St bb w.heap.size (⟨A,I,U,Y,M,(cJ s).length+1⟩:bP) F' rows' ln' (seen++ [r.getD 0 []]):=⟨_,_,bm,bw,⟨ao.len,by rw [bF,iq]; omega,ao.row,ao.kd,ao.al⟩⟩
 have b4:=Cy bj ac
 have bN:=xK bi ac
 exact eh ag<|bn<|tn<|⟨_,by simp only [bT]; have :=ry ac; omega,k - 1,F',rows',ln',seen++ [r.getD 0 []],a3.1,a3.2,G,b4,bN,bV,aa,aa,aa,aa,aa⟩
 refine l9 5 aa ag aa aa aa (fun _ _=>aG (.pointer<|some ⟨A,0,none⟩) aa) C<|l9 6 aa ag aa aa aa (fun _ _=>nc aa) C<|l9 7 aa ag aa aa aa (fun _ _=>fa pN aa) C<|l9 8 aa ag aa aa aa (fun w' J=>ld ph aa<|Wk.aH J<|(aX Z.cells).trans aa) C<|l9 9 aa ag aa aa aa (fun _ _=>mv) C<|l9 10 aa ag aa aa aa (fun _ _=>aW dD aa aa ab<|aC.ok (aC.wk aS.c6.2 C)<|cK ab) C<|l9 11 aa ag aa aa aa (fun w' J=>ld cG aa<|Wk.aH J<|cX.get (i:=0) aS.c6.2 ab) C<|l9 12 aa ag aa aa aa (fun w' J=>me nU mx fZ (bQ.md (ea) J id) aa aa (⟨_,aa⟩)<|eb<|r.getD 0 []) C<|l9 13 aa ag aa aa aa (fun _ _=>bS aa aa) C<|hp 14 aa ag (fun _ _=>bD aa) C ?_
 refine pS 15 aa ag aa (cC fD (fG A n _ 112 ax.drew (Wk.aH C Z.dH) aw) aa fun er aL bx=> ?_) (fun c w' ad aU O=>by
  obtain ⟨rfl,av,rfl⟩:=ad
  first
   | exact absurd av aw
   | exact oK rfl aw ((O 2<|.head _).trans rfl) ((O 3<|.tail _<|.head _).trans rfl) (az.md Wk.dr) (o8 am<|DJ ai hk aj an (fun h=>a6<|by rw [h]; rfl)<|lf.1 fun h=>of_decide_eq_false av<|by rw [n6.2 h]; rfl))
 obtain ⟨rfl,b7,a8⟩:=bx
 have aI:width (r.getD 0 [])=2→r.getD 0 []∉seen:=by
  first
   | exact fun h=>absurd a6 ab
   | exact fun _=>n6.1<|by have :=of_decide_eq_true b7; omega
 have E:Wk ax aL:=by rw [a8]; exact Wk.dr
 obtain ⟨el,bM,bJ⟩:=Cv aj
 obtain ⟨cU,b5,bE,bH⟩:=CA w.heap.size (⟨A,I,U,Y,M,(cJ s).length+1⟩:bP) F rest n seen r w.heap.size b9 cb aL ⟨_,_,ay.wk E,Z.wk E,cf⟩ (aS.wk E) b3.2.2 an bj aI ab bM
 have bL:=bJ _ _ b5
 have bz:(fun w'=>Wk ax w') aL:=by rw [a8]; exact C
 refine ⟨bz,?_⟩
 refine hn ag<|tn<|ck _ _<|sq fun cO bp=>rg aa<|p (fa Ca aa)<|p (ld zP aa<|(aX<|Wk.aB E bh).trans<|congrArg some bL)<|p (aG (.pointer<|some ⟨A,0,none⟩) aa)<|p mv ?_
 refine eP aa (ET bE aa bH aa fun ep aJ bv=> ?_) (fun c w' ad aU O=>by
  obtain ⟨l,e,ac,rfl,ap⟩:=ad
  exact oK aa aw ((O 2<|.head _).trans aa) ((O 3<|.tail _<|.head _).trans aa) ((az.md E).mw (ay.wk E) (Z.wk E) ap) (o8 am<|DK ai hk aj an aI ac))
 obtain ⟨rfl,F',rows',ln',ac,⟨cP,bk,aV,ae,ao⟩,ap⟩:=bv
 have bY:=(az.md E).mw (ay.wk E) (Z.wk E) ap
 obtain ⟨em,b0,_⟩:=Z.sm
 obtain ⟨en,b1,_⟩:=Z.tm
 obtain ⟨eo,b2,_⟩:=ay.cm
 have a2:=(aS.wk E).md ap<|Wr.ne (dj<|b0.wk E) (dj<|b1.wk E) (dj<|b2.wk E) aw
 obtain ⟨fs,a4,a5⟩:=ae.sm
 have dR:=qu (a:=r.getD 0 []) (l:=seen)
 have a3:=DL ai hk aj an aI ac
 refine nl<|tn<|bp _ _ ?_
 have G:(fun w'=>Wk aJ w') aJ.drew:=(Md.refl _ _).drew
 refine ei (fun w'=>Wk aJ w') 9 aa wide G<|lq 0 aa ag (fun _ _=>aG (.pointer<|some ⟨A,0,none⟩) aa) G<|lq 1 aa ag (fun _ _=>nc aa) G<|lq 2 aa ag (fun _ _=>fa pN aa) G<|lq 3 aa ag (fun w' J=>ld ph aa<|Wk.aH J<|(aX ae.cells).trans aa) G<|lq 4 aa ag (fun _ _=>mv) G<|lq 5 aa ag (fun _ _=>aW dD aa aa ab<|aC.ok (aC.wk a2.c6.2 G)<|cK ab) G<|lq 6 aa ag (fun w' J=>ld cG aa<|Wk.aH J<|cX.get (i:=0) a2.c6.2 ab) G<|lq 7 aa ag (fun w' J=>me nU mx fZ (bQ.md (a4) J id) aa aa (⟨_,aa⟩)<|a5<|r.getD 0 []) G<|lq 8 aa ag (fun _ _=>bG ((seen.count (r.getD 0 [])+1:Nat):Int) aa aa<|bd ab ab) G<|cQ 9 aa ag ag<|qd nU fZ (a4.wk G) aa aa aa (⟨_,aa⟩) fun bb bq bu=> ?_
 have aF:=gY bq
 have bw:bU bb w.heap.size (⟨A,I,U,Y,M,(cJ s).length+1⟩:bP) F' bk rows' ln' (seen++ [r.getD 0 []]):=bU.DX ae aF bu<|DY _ a5
 have bm:=cD.ms aV ae aF
 have bV:=bY.mw aV ae<|dU.ms ae aF
 have d5:=ry ac
 have G:St bb w.heap.size (⟨A,I,U,Y,M,(cJ s).length+1⟩:bP) F' rows' ln' (seen++ [r.getD 0 []]):=⟨_,_,bm,bw,⟨ao.len,by rw [bF,iq]; omega,ao.row,ao.kd,ao.al⟩⟩
 have b4:=Cy bj ac
 have bN:=xK bi ac
 exact eh ag<|bn<|tn<|⟨_,by simp only [bT]; have :=ry ac; omega,k - 1,F',rows',ln',seen++ [r.getD 0 []],a3.1,a3.2,G,b4,bN,bV,aa,aa,aa,aa,aa⟩
 obtain rfl :rows= []:=by
  cases rows with
  | nil=>rfl
  | cons q rest=>exact absurd (by simp only [bT]; omega) bC
 rw [DM] at ai
 refine ext<|te _<|te _<|be<|ej<|ek<|eS<|rg aa<|p (aG (.pointer<|some ⟨A,0,none⟩) aa) ?_
 refine eP aa (cC IL (I0 w.heap.size (⟨A,I,U,Y,M,(cJ s).length+1⟩:bP) F [] ln seen a9 ⟨_,_,O,aq,aP⟩ bi.2) aa fun fe cL dC=> ?_) (fun c w' ad aU ci=>by
  obtain ⟨q,bZ,rfl,br⟩:=ad
  exact oK aa aw ((ci 2<|.head _).trans aa) ((ci 3<|.tail _<|.head _).trans aa) (bR.mw O aq br) (GL am ai.symm bZ))
 obtain ⟨rfl,dV,⟨cS,eE,fc,cj,dG⟩,br⟩:=dC
 have aT:=bR.mw O aq br
 have eV:=aT.lo
 refine nl<|ej<|ek<|eS<|rg aa<|p (aG (.pointer<|some ⟨A,0,none⟩) aa)<|p (nc aa)<|p (fa fw aa)<|p (ld ed aa<|(aX dG.cells).trans aa)<|p (cE (ps:= []) (L:= [.int .i64 0,.int .i64 0,.int .i64 0]) p5 aa<|aa)<|e<|dA wu aa aa (v:= .pointer<|some ⟨I,0,none⟩) aa aT.c2 aw fun fo cn cZ=>e<|ga gS aa aa aa aa (cn.aB aT.c3 fun h=>by omega) aw fun es co c0=> ?_
 have cp:Md (fun k=>k=aN∨k=aO) cL es:=(cn.mono fun _ _ h=> .inl h).trans' co fun _ _ h=> .inr h
 refine nl<|ej<|rQ ?_
 have cv:TF cL [62,49] (fun k=>k=aN∨k=aO):=TF.or (TF.eq (di aT.c2) aw)<|TF.eq (di aT.c3) aw
 obtain ⟨eG,dW,_⟩:=cj.cm
 have dm:=cj.md cp cv aw<|cv.no (dj dW) aw
 exact Ps aa aw aa aa (co.aB cZ fun h=>by omega) c0 aa (fun w' hm=>by
  unfold mJ
  rw [GN am ai.symm dV]
  exact ⟨⟨I,M,cS,aa,dm.wk hm,⟨seen,aP⟩,bi⟩,(aT.wk.trans' cp fun k hk h=>by omega).trans hm⟩)
end Go.Hb.jj
end
namespace Go.Hb.iW
def jG (F:aE) (V:dG):List Value:= [.int .i64 (F.kind:Nat),str F.qS,str F.tr,aO (F.sp.getD 0 0),aO (F.sp.getD 1 0),aO (F.sp.getD 2 0),aO (F.sp.getD 3 0),aO (F.sp.getD 4 0),.int .i64 (F.least:Nat),V.v9,V.v10,V.v11,V.v12]
structure mG (w:World) (B:Nat) (F:aE) (V:dG):Prop where
 o9:bm w B 128 2 V.v9 F.cT.length (lH F.cT)
 fN:bm w B 70 1 V.v10 F.aliases.length V.sa
 al:c4 w B 51 V.sa F.aliases
 ff:bm w B 131 5 V.v11 F.bo.length (kU F.bo)
 dN:bm w B 77 7 V.v12 F.rules.length (fy<|F.rules.zip V.rn)
 nx:c4 w B 51 V.rn (F.rules.map (·.next))
theorem vy {w:World} {B e:Nat} {vs:List Value} {C:List (List Nat)} (h:c4 w B e vs C):vs.all eH=true :=by
 rw [kg]
 intro v A
 obtain ⟨i,hi⟩:=List.getElem?_of_mem A
 have h1:=(eI.1 hi).1
 obtain ⟨u,hu,q⟩:=c4.get h (i:=i)<|by rw [← h.1]; exact h1
 rw [hi] at hu; cases hu
 obtain ⟨a,c,rfl⟩:=q.slice; rfl
theorem PQ {w:World} {B e:Nat} {rs:List cW} {vs:List Value} {i:List (List Nat)} (h:c4 w B e vs i):(fy<|rs.zip vs).all eH=true :=by
 rw [kg]
 intro v a
 obtain ⟨q,c,a⟩:=vk.1 a
 have h1:=kg.1 (vy h) q.2 (Gb c).2
 simp only [dP,eK,sE,or_false] at a
 rcases a with rfl | rfl | rfl | rfl | rfl | rfl | rfl <;> first | rfl | exact h1
theorem PR {rs:List cW} {vs:List Value} {i:Nat} {v:Value} (hi:i < rs.length) (E:i < vs.length):(fy<|rs.zip vs).set (i*7 +6) v=fy (rs.zip<|vs.set i v):=by
 obtain ⟨r,C⟩:∃ r,rs[i]? =some r:=⟨_,cx hi⟩
 obtain ⟨u,hu⟩:∃ u,vs[i]? =some u:=⟨_,cx E⟩
 have G:(rs.zip vs)[i]? =some (r,u):=iJ.2 ⟨C,hu⟩
 have O:rs.zip (vs.set i v)=(rs.zip vs).set i (r,v):=by
  apply ni
  intro j
  rw [jx]
  by_cases A:i=j
  · subst A
    rw [if_pos rfl,if_pos (eI.1 G).1]
    exact iJ.2 ⟨C,by simp [E]⟩
  · rw [if_neg A]
    cases h1:(rs.zip vs)[j]? with
    | none=>
      rw [F2,vj] at h1 ⊢
      rw [sy]; exact h1
    | some q=>
      have h2:=iJ.1 h1
      exact iJ.2 ⟨h2.1,by rw [jx,if_neg A]; exact h2.2⟩
 have U:(rs.zip vs).length=min rs.length vs.length:=vj
 have a:(fy<|rs.zip vs).length=(rs.zip vs).length*7:=nD (f:=dP) (m:=7) (fun _=>rfl) _
 rw [O,show fy ((rs.zip vs).set i (r,v))=(fy<|rs.zip vs).take (i*7)++dP (r,v)++(fy<|rs.zip vs).drop (i*7 +7) from BX (f:=dP) (m:=7) (fun _=>rfl) _ ab]
 apply ni
 intro j
 have I:=fun c a=>xk (f:=dP) (m:=7) (fun _=>rfl) (c:=c) G a
 have J:∀ c,c < 7→(fy<|rs.zip vs)[i*7 +c]? =(dP (r,u))[c]? :=fun c h=>I c h
 have M:((fy<|rs.zip vs).take<|i*7).length=i*7:=by rw [dT,a]; omega
 rw [jx]
 by_cases h1:j < i*7
 · rw [if_neg ab,dx,lh ab,lT,if_pos h1]
 · rw [dx,lS ab,M]
   by_cases h2:j < i*7 +7
   · rw [lh (by show _ < 7; omega)]
     obtain ⟨c,rfl⟩:∃ c,j=i*7 +c:=⟨j - i*7,ab⟩
     have h3:c < 7:=ab
     rw [J c h3,show i*7 +c - i*7=c by omega]
     match c,h3 with
     | 0,_=>rw [if_neg ab]; rfl
     | 1,_=>rw [if_neg ab]; rfl
     | 2,_=>rw [if_neg ab]; rfl
     | 3,_=>rw [if_neg ab]; rfl
     | 4,_=>rw [if_neg ab]; rfl
     | 5,_=>rw [if_neg ab]; rfl
     | 6,_=>rw [if_pos rfl,if_pos ab]; rfl
   · rw [if_neg ab,lS (by show 7≤_; omega),show (dP (r,v)).length=7 from rfl,sw]
     congr 1; omega
theorem k6 {l:List (cW×Value)} {i:Nat} {q:cW×Value} (h:l[i]? =some q):fy l≠[]:=fun h2=>by
 have h3:(fy l).length=l.length*7:=nD (f:=dP) (m:=7) (fun _=>rfl) _
 have h4:=(eI.1 h).1
 rw [h2] at h3
 have h5:0=l.length*7:=h3
 omega
theorem vB {F:aE} {V:dG} (A:V.v9.oneCell'=true) (c:V.v10.oneCell'=true) (i:V.v11.oneCell'=true) (q:V.v12.oneCell'=true):(jG F V).all eH=true :=by
 rw [kg]
 intro v a
 simp only [jG,eK,sE,or_false] at a
 rcases a with rfl | rfl | rfl | rfl | rfl | rfl | rfl | rfl | rfl | rfl | rfl | rfl | rfl <;> first | rfl | assumption
theorem Hf {w:World} {B fb mc:Nat} {F:aE} {V:dG} (h:cD w B fb mc F V):(jG F V).all eH=true :=vB (eb h.o9) (eb h.fN) (eb h.ff)<|eb h.dN
theorem wz {α:Type} {l m:List α} {i:Nat} (h:l.drop i=m.drop i):l[i]? =m[i]? :=by
 have h1:=congrArg (·[0]?) h
 simpa using h1
theorem yz {α:Type} {l:List α} {i:Nat} {x:α} (h:i < l.length):(l.set i x).take (i+1)=l.take i++ [x]:=by
 rw [List.take_add_one,List.take_set_of_le (bX i)]; simp [h]
theorem set_drop {α:Type} {l m:List α} {i:Nat} {x:α} (h:l.drop i=m.drop i):(l.set i x).drop (i+1)=m.drop (i+1):=by
 rw [List.drop_set_of_lt (Nat.lt_succ_self i),show i.succ=i+1 from rfl]
 simpa [List.drop_drop] using congrArg (List.drop 1) h
theorem zW {w:World} {B e i:Nat} {vs:List Value} {a:List (List Nat)} {v:Value} (h:c4 w B e (vs.take i) (a.take i)) (hi:i < a.length) (q:i < vs.length) (c:Tg w B e (a.getD i []).length v ((a.getD i []).map aO)):c4 w B e ((vs.set i v).take<|i+1) (a.take<|i+1):=by
 rw [yz q,ka a i [] hi]; exact h.snoc c
theorem Ji (a:Option Addr) (n c:Nat) (xs:List Value) (w:World) (M:aC w.heap a xs) (ad:xs.length=n*2) (V:a=none→n=0) (h1:xs.all eH=true) (hn:n≤1048576):
 ba au 48 (aY [.slice a n c]) w (fun ag w'=>bm w' w.heap.size 128 2 ag n xs∧Wk w w'):=by
 refine enter func48 aa ntmps48 aa<|ak fun E=>ay<|E<|az fun G=>ak fun I=>ao (.slice a n c)<|p (pI Q9 aa aa)<|nl<|I<|cb aa (fun A=> ?_) fun A=> ?_
 have Y:a=none:=by simpa using A
 refine ak fun i=>ay<|i<|rt<|tr<|a6 aa ?_
 have Z:=V Y
 subst Z
 obtain rfl :=gi (show xs.length=0 by omega)
 exact ⟨dI _ _ _ _,Md.refl _ _⟩
 refine aM<|G<|ak fun i=>e<|po uh fun aj aq al q J=> ?_
 have C:=J w.heap.size ab
 refine ao (.slice a n c)<|e<|ap uh (C) aa (by have :=q.size; omega) aa (M.wk q.md) (ad) (h1) ab ab fun ah ai ac U an am=> ?_
 have O:=Wk.own q.md C U<|bX _
 refine ay<|i<|rt<|a6 aa ?_
 have ae:bm ai w.heap.size 128 2 ah n xs:=by simpa using ac
 exact ⟨ae,O⟩
theorem Jh (v:Value) (n:Nat) (xs:List Value) (w:World) (A:Rd w.heap v n 2 xs) (h1:xs.all eH=true) (hn:n≤1048576):ba au 48 [v].toArray w (fun v w'=>bm w' w.heap.size 128 2 v n xs∧Wk w w'):=by
 obtain ⟨a,c,rfl,i,C,q⟩:=A
 exact Ji a n c xs w i C q h1 hn
theorem Je (a:Option Addr) (n c:Nat) (xs:List Value) (w:World) (M:aC w.heap a xs) (ad:xs.length=n*5) (V:a=none→n=0) (h1:xs.all eH=true) (hn:n≤1048576):
 ba au 49 (aY [.slice a n c]) w (fun ag w'=>bm w' w.heap.size 131 5 ag n xs∧Wk w w'):=by
 refine enter func49 aa ntmps49 aa<|ak fun E=>ay<|E<|az fun G=>ak fun I=>ao (.slice a n c)<|p (pI EA aa aa)<|nl<|I<|cb aa (fun A=> ?_) fun A=> ?_
 have Y:a=none:=by simpa using A
 refine ak fun i=>ay<|i<|rt<|tr<|a6 aa ?_
 have Z:=V Y
 subst Z
 obtain rfl :=gi (show xs.length=0 by omega)
 exact ⟨dI _ _ _ _,Md.refl _ _⟩
 refine aM<|G<|ak fun i=>e<|po uj fun aj aq al q J=> ?_
 have C:=J w.heap.size ab
 refine ao (.slice a n c)<|e<|ap uj (C) aa (by have :=q.size; omega) aa (M.wk q.md) (ad) (h1) ab ab fun ah ai ac U an am=> ?_
 have O:=Wk.own q.md C U<|bX _
 refine ay<|i<|rt<|a6 aa ?_
 have ae:bm ai w.heap.size 131 5 ah n xs:=by simpa using ac
 exact ⟨ae,O⟩
theorem Jd (v:Value) (n:Nat) (xs:List Value) (w:World) (A:Rd w.heap v n 5 xs) (h1:xs.all eH=true) (hn:n≤1048576):ba au 49 [v].toArray w (fun v w'=>bm w' w.heap.size 131 5 v n xs∧Wk w w'):=by
 obtain ⟨a,c,rfl,i,C,q⟩:=A
 exact Je a n c xs w i C q h1 hn
theorem Jm (a:Option Addr) (n c:Nat) (xs:List Value) (w:World) (M:aC w.heap a xs) (ad:xs.length=n*1) (V:a=none→n=0) (h1:xs.all eH=true) (hn:n≤1048576):
 ba au 50 (aY [.slice a n c]) w (fun ag w'=>bm w' w.heap.size 70 1 ag n xs∧Wk w w'):=by
 refine enter func50 aa ntmps50 aa<|ak fun E=>ay<|E<|az fun G=>ak fun I=>ao (.slice a n c)<|p (pI uz aa aa)<|nl<|I<|cb aa (fun A=> ?_) fun A=> ?_
 have Y:a=none:=by simpa using A
 refine ak fun i=>ay<|i<|rt<|tr<|a6 aa ?_
 have Z:=V Y
 subst Z
 obtain rfl :=gi (show xs.length=0 by omega)
 exact ⟨dI _ _ _ _,Md.refl _ _⟩
 refine aM<|G<|ak fun i=>e<|po ui fun aj aq al q J=> ?_
 have C:=J w.heap.size ab
 refine ao (.slice a n c)<|e<|ap ui (C) aa (by have :=q.size; omega) aa (M.wk q.md) (ad) (h1) ab ab fun ah ai ac U an am=> ?_
 have O:=Wk.own q.md C U<|bX _
 refine ay<|i<|rt<|a6 aa ?_
 have ae:bm ai w.heap.size 70 1 ah n xs:=by simpa using ac
 exact ⟨ae,O⟩
theorem Jl (v:Value) (n:Nat) (xs:List Value) (w:World) (A:Rd w.heap v n 1 xs) (h1:xs.all eH=true) (hn:n≤1048576):ba au 50 [v].toArray w (fun v w'=>bm w' w.heap.size 70 1 v n xs∧Wk w w'):=by
 obtain ⟨a,c,rfl,i,C,q⟩:=A
 exact Jm a n c xs w i C q h1 hn
theorem Jk (a:Option Addr) (n c:Nat) (xs:List Value) (w:World) (M:aC w.heap a xs) (ad:xs.length=n*7) (V:a=none→n=0) (h1:xs.all eH=true) (hn:n≤1048576):
 ba au 52 (aY [.slice a n c]) w (fun ag w'=>bm w' w.heap.size 77 7 ag n xs∧Wk w w'):=by
 refine enter func52 aa ntmps52 aa<|ak fun E=>ay<|E<|az fun G=>ak fun I=>ao (.slice a n c)<|p (pI qa aa aa)<|nl<|I<|cb aa (fun A=> ?_) fun A=> ?_
 have Y:a=none:=by simpa using A
 refine ak fun i=>ay<|i<|rt<|tr<|a6 aa ?_
 have Z:=V Y
 subst Z
 obtain rfl :=gi (show xs.length=0 by omega)
 exact ⟨dI _ _ _ _,Md.refl _ _⟩
 refine aM<|G<|ak fun i=>e<|po uk fun aj aq al q J=> ?_
 have C:=J w.heap.size ab
 refine ao (.slice a n c)<|e<|ap uk (C) aa (by have :=q.size; omega) aa (M.wk q.md) (ad) (h1) ab ab fun ah ai ac U an am=> ?_
 have O:=Wk.own q.md C U<|bX _
 refine ay<|i<|rt<|a6 aa ?_
 have ae:bm ai w.heap.size 77 7 ah n xs:=by simpa using ac
 exact ⟨ae,O⟩
theorem Jj (v:Value) (n:Nat) (xs:List Value) (w:World) (A:Rd w.heap v n 7 xs) (h1:xs.all eH=true) (hn:n≤1048576):ba au 52 [v].toArray w (fun v w'=>bm w' w.heap.size 77 7 v n xs∧Wk w w'):=by
 obtain ⟨a,c,rfl,i,C,q⟩:=A
 exact Jk a n c xs w i C q h1 hn
theorem Jg (a:Option Addr) (n c:Nat) (xs:List Value) (w:World) (M:aC w.heap a xs) (ad:xs.length=n*2) (V:a=none→n=0) (h1:xs.all eH=true) (hn:n≤1048576):
 ba au 90 (aY [.slice a n c]) w (fun ag w'=>bm w' w.heap.size 72 2 ag n xs∧Wk w w'):=by
 refine enter func90 aa ntmps90 aa<|ak fun E=>ay<|E<|az fun G=>ak fun I=>ao (.slice a n c)<|p (pI uA aa aa)<|nl<|I<|cb aa (fun A=> ?_) fun A=> ?_
 have Y:a=none:=by simpa using A
 refine ak fun i=>ay<|i<|rt<|tr<|a6 aa ?_
 have Z:=V Y
 subst Z
 obtain rfl :=gi (show xs.length=0 by omega)
 exact ⟨dI _ _ _ _,Md.refl _ _⟩
 refine aM<|G<|ak fun i=>e<|po um fun aj aq al q J=> ?_
 have C:=J w.heap.size ab
 refine ao (.slice a n c)<|e<|ap um (C) aa (by have :=q.size; omega) aa (M.wk q.md) (ad) (h1) ab ab fun ah ai ac U an am=> ?_
 have O:=Wk.own q.md C U<|bX _
 refine ay<|i<|rt<|a6 aa ?_
 have ae:bm ai w.heap.size 72 2 ah n xs:=by simpa using ac
 exact ⟨ae,O⟩
theorem Jf (v:Value) (n:Nat) (xs:List Value) (w:World) (A:Rd w.heap v n 2 xs) (h1:xs.all eH=true) (hn:n≤1048576):ba au 90 [v].toArray w (fun v w'=>bm w' w.heap.size 72 2 v n xs∧Wk w w'):=by
 obtain ⟨a,c,rfl,i,C,q⟩:=A
 exact Jg a n c xs w i C q h1 hn
theorem qG (B fb mc:Nat) (F:aE) (V:dG) (w:World) (aN:cD w B fb mc F V) (dV:F.cT.length+F.aliases.length+F.bo.length+F.rules.length≤70000) (bV:Nx F):
 ba au 20 (aY [aU fb]) w (fun v w'=>(∃ bz,v= .agg (jG F bz).toArray∧mG w' w.heap.size F bz)∧Wk w w'):=by
 refine enter func20 aa ntmps20 aa<|ak fun co=>e<|gR E7 fun bf Z dW bj bD=> ?_
 have d0:=bj.size
 have ai:=aN.wk bj.md
 refine nl<|co<|az fun cw=>ak fun cy=>ao (aU fb)<|p (kY r4 aa aa)<|nl<|cy<|cf (aa)<|aM<|cw<|ak fun cz=>ao (aU fb)<|p (nc aa) ?_
 refine p (fa eZ aa)<|p (cI vw aa (aa) (show ∀ j,j < 13→Hb.aH Z.heap fb (0 +j)=(jG F V)[j]? from fun j aZ=>(aX ai.cells).trans<|by match j,aZ with | 0,_=>rfl | 1,_=>rfl | 2,_=>rfl | 3,_=>rfl | 4,_=>rfl | 5,_=>rfl | 6,_=>rfl | 7,_=>rfl | 8,_=>rfl | 9,_=>rfl | 10,_=>rfl | 11,_=>rfl | 12,_=>rfl))<|e<|gR E7 fun Y C dX bL cK=> ?_
 have d3:=bL.size
 refine e<|ga wq aa aa aa (Hf ai) cK aw fun a6 bK cL=> ?_
 have bE:Wk Z a6:=bL.md.trans' bK fun q a h=>by omega
 have d4:=bK.size
 have cX:=ai.wk bE
 have aR:a6.heap[Y]? =some (.cells (jG F ⟨V.v9,V.v10,V.v11,V.v12,V.sa,V.rn⟩).toArray 58 (0,0)):=cL
 refine nl<|cz<|ak fun cA=>p (fa tJ aa)<|p (ld zR aa<|(aX aR).trans aa)<|e<|cl IB (Jh V.v9 F.cT.length (lH F.cT) a6 (Rd.jP cX.o9) (BW (fun _=>rfl) _) ab) aa fun O cj cZ=> ?_
 obtain ⟨b0,bh⟩:=cZ
 have dZ:=bh.size
 have b2:=eD b0 (show C.heap.size≤a6.heap.size by omega)
 refine p (fa tJ aa)<|e<|dA A9 aa aa (v:=O) (eb b0) (bh.aB aR) (by show _ < 13; omega) fun a7 bi cM=> ?_
 have bG:Wk Z a7:=(bE.trans bh).trans' bi fun q a h=>by omega
 have d5:=bi.size
 have cY:=ai.wk bG
 have b3:=bZ b2 bi fun q a h=>by have :=(dd b2 a).1; omega
 have bQ:a7.heap[Y]? =some (.cells (jG F ⟨O,V.v10,V.v11,V.v12,V.sa,V.rn⟩).toArray 58 (0,0)):=cM
 refine nl<|cA<|ak fun cB=>p (fa pP aa)<|p (ld sS aa<|(aX bQ).trans aa)<|e<|cl IC (Jd V.v11 F.bo.length (kU F.bo) a7 (Rd.jP cY.ff) (BW (fun _=>rfl) _) ab) aa fun v20 ed c0=> ?_
 obtain ⟨b5,aA⟩:=c0
 have d1:=aA.size
 have b6:=eD b5 (show C.heap.size≤a7.heap.size by omega)
 refine p (fa pP aa)<|e<|dA Bb aa aa (v:=v20) (eb b5) (aA.aB bQ) (by show _ < 13; omega) fun a8 aQ cN=> ?_
 have bH:Wk Z a8:=(bG.trans aA).trans' aQ fun q a h=>by omega
 have d7:=aQ.size
 have bJ:=ai.wk bH
 have b4:=bZ (aV b3 aA) aQ fun q a h=>by have :=(dd (aV b3 aA) a).1; omega
 have b7:=bZ b6 aQ fun q a h=>by have :=(dd b6 a).1; omega
 have bS:a8.heap[Y]? =some (.cells (jG F ⟨O,V.v10,v20,V.v12,V.sa,V.rn⟩).toArray 58 (0,0)):=cN
 refine nl<|cB<|ak fun cC=>p (fa mS aa)<|p (ld om aa<|(aX bS).trans aa)<|e<|cl ID (Jl V.v10 F.aliases.length V.sa a8 (Rd.jP bJ.fN) (vy bJ.al) ab) aa fun v24 ee c1=> ?_
 obtain ⟨b8,an⟩:=c1
 have d2:=an.size
 have b9:=eD b8 (show C.heap.size≤a8.heap.size by omega)
 refine p (fa mS aa)<|e<|dA Ba aa aa (v:=v24) (eb b8) (an.aB bS) (by show _ < 13; omega) fun cm aF cP=> ?_
 have cW:Wk Z cm:=(bH.trans an).trans' aF fun q a h=>by omega
 have d8:=aF.size
 have dt:=bZ (aV b4 an) aF fun q a h=>by have :=(dd (aV b4 an) a).1; omega
 have dm:=bZ (aV b7 an) aF fun q a h=>by have :=(dd (aV b7 an) a).1; omega
 have bW:=bZ b9 aF fun q a h=>by have :=(dd b9 a).1; omega
 have bT:cm.heap[Y]? =some (.cells (jG F ⟨O,v24,v20,V.v12,V.sa,V.rn⟩).toArray 58 (0,0)):=cP
 obtain ⟨ac,ae,rfl⟩:=cR bW
 have dL:=aN.al.1
 refine nl<|cC<|az fun cE=>ak fun cF=>p (fa mS aa)<|p (ld om aa<|(aX bT).trans aa)<|p (bO uz aa aa)<|p mv<|nl<|cF<|aB<|lp (fun ax av E=> ∃ (i:Nat) (sa:List Value),(i≤F.aliases.length)∧(sa.length=F.aliases.length)∧(sa.drop i=V.sa.drop i)∧(c4 E C.heap.size 51 (sa.take i)<|F.aliases.take i)∧(bm E C.heap.size 70 1 (.slice ac F.aliases.length ae) F.aliases.length<|sa)∧(bm E C.heap.size 128 2 (O) F.cT.length<|lH F.cT)∧(bm E C.heap.size 131 5 (v20) F.bo.length<|kU F.bo)∧(E.heap[Y]? =some (.cells (jG F ⟨O,.slice ac F.aliases.length ae,v20,V.v12,V.sa,V.rn⟩).toArray 58 (0,0)))∧(Wk Z E)∧(C.heap.size≤E.heap.size)∧(av 2=aU bf)∧(av 3=aU Y)∧(av 27= .slice ac F.aliases.length ae)∧(av 28=aj (F.aliases.length))∧(av 29=aj i)∧(F.aliases.length - i=ax)) _ ⟨0,V.sa,ab,dL,aa,(c4.nil _ _ _),bW,dt,dm,bT,cW,(ab),aa,aa,aa,aa,aa,aa⟩ ?_
 rintro ax av E ⟨i,sa,hi,aJ,ce,br,M,a4,a2,aI,aL,d9,dB,dF,dC,dD,dE,rfl⟩
 refine fx 2 dB<|fx 3 dF<|fx 27 dC<|fx 28 dD<|fx 29 dE<|ak fun cp=>p (lt aa aa)<|nl<|cp<|az fun cq=>cd aa (fun aR=> ?_) fun aR=> ?_
 refine aM<|cq<|az fun a9=>aB<|az fun bb=> ?_
 obtain ⟨ec,dO,bl⟩:=c4.get (ai.wk aL).al (show i < F.aliases.length by omega)
 obtain ⟨cG,ci,rfl⟩:=bl.slice
 refine rg aa<|ao (aj i)<|p (aW wU aa aa ab<|aC.ok ((aT M).2) fun h=>by rw [h] at aJ; simp at aJ; omega)<|p (ld kR aa<|aC.jo (aT M).2<|(wz ce).trans dO)<|p (bY (aj i) aa)<|ay<|bb ?_
 have am:(fun w'=>Wk E w') E.drew:=(Md.refl _ _).drew
 refine ei (fun w'=>Wk E w') 6 aa wide am<|lq 0 aa ag (fun _ _=>fa mS aa) am<|lq 1 aa ag (fun w' ar=>ld om aa<|Wk.aH ar<|(aX aI).trans aa) am<|lq 2 aa ag (fun _ _=>aG (aj i) aa) am<|lq 3 aa ag (fun _ _=>mv) am<|iQ 4 aa ag<|cl ou (pB cG (F.aliases.getD i []).length ci ((F.aliases.getD i []).map aO) E.drew (aC.wk bl.c6.2 am) (by simp) (fun h=>Tg.pW bl (by simp) h) (pj _)<|by have :=bV.1 _ (eR (d:= []) (show i < F.aliases.length by omega)); omega) aa fun dR ck c2=> ?_
 obtain ⟨bt,bF⟩:=c2
 have G:Wk E ck:=am.trans bF
 have c7:=G
 have bM:(fun w'=>Wk E w') ck:=am.trans bF
 refine ⟨bM,?_⟩
 refine lq 5 aa ag (fun _ _=>aW wU aa aa ab<|aC.ok ((aT M).2) fun h=>by rw [h] at aJ; simp at aJ; omega) bM<|cQ 6 aa ag ag<|p6 (j:=i) (aV M G) pD aa aa (eb bt) (by simp) ab fun dT ap dh=> ?_
 have cS:Wk Z dT:=Wk.own (aL.trans G) (aV M G) ap ab
 have dp:=bZ (eD bt (show C.heap.size≤E.heap.size by omega)) ap fun q a=>mi bt (aV M G) aw a
 have c9:=(br.wk G).md ap<|iG (aV M G) aw
 have dr:=bZ (aV a4 G) ap fun q a=>mi (aV a4 G) (aV M G) aw a
 have dk:=bZ (aV a2 G) ap fun q a=>mi (aV a2 G) (aV M G) aw a
 have de:=ap.aB (Wk.aB G aI) fun h=>by have :=(dd (aV M G) h).1; omega
 exact eh ag<|bn<|a9<|rg aa<|p (ad aa aa<|bR ab)<|p mv<|nl<|tn<|⟨_,ab,i+1,sa.set i dR,ab,(by rw [sy]; exact aJ),(set_drop ce),(zW c9 ab ab<|Tg.jP dp),dh,dr,dk,de,cS,(by have :=c7.size; have :=ap.size; omega),aa,aa,aa,aa,aa,aa⟩
 refine ext<|bc<|bc<|be<|cE<|ak fun a9=>p (fa lD aa)<|p (ld jX aa<|(aX aI).trans aa)<|e<|cl IE (Jj V.v12 F.rules.length (fy<|F.rules.zip V.rn) E (Rd.jP (ai.wk aL).dN) (PQ aN.nx) ab) aa fun cg ef c3=> ?_
 obtain ⟨ca,U⟩:=c3
 have d6:=U.size
 have cb:=eD ca (show C.heap.size≤E.heap.size by omega)
 rw [eL ab,eL ab] at br
 refine p (fa lD aa)<|e<|dA Bc aa aa (v:=cg) (eb ca) (Wk.aB U aI) (by show _ < 13; omega) fun ch aq cH=> ?_
 have cU:Wk Z ch:=(aL.trans U).trans' aq fun q a h=>by omega
 have dY:=aq.size
 have du:=bZ (aV a4 U) aq fun q a h=>by have :=(dd (aV a4 U) a).1; omega
 have dj:=bZ (aV M U) aq fun q a h=>by have :=(dd (aV M U) a).1; omega
 have dn:=bZ (aV a2 U) aq fun q a h=>by have :=(dd (aV a2 U) a).1; omega
 have bX:=bZ cb aq fun q a h=>by have :=(dd cb a).1; omega
 have db:=(br.wk U).md aq<|gn (Wk.aB U aI) aw
 have bP:ch.heap[Y]? =some (.cells (jG F ⟨O,.slice ac F.aliases.length ae,v20,cg,V.sa,V.rn⟩).toArray 58 (0,0)):=cH
 obtain ⟨a12,jY,rfl⟩:=cR bX
 have dx:V.rn.length=F.rules.length:=by have :=aN.nx.1; rwa [eJ] at this
 refine nl<|a9<|az fun bb=>ak fun cr=>p (fa lD aa)<|p (ld jX aa<|(aX bP).trans aa)<|p (bO qa aa aa)<|p mv<|nl<|cr<|aB<|lp (fun ax aK A=> ∃ (i:Nat) (rn:List Value),(i≤F.rules.length)∧(rn.length=F.rules.length)∧(rn.drop i=V.rn.drop i)∧(c4 A C.heap.size 51 (rn.take i)<|(F.rules.map (·.next)).take i)∧(bm A C.heap.size 77 7 (.slice a12 F.rules.length jY) F.rules.length<|fy<|F.rules.zip rn)∧(bm A C.heap.size 128 2 (O) F.cT.length<|lH F.cT)∧(bm A C.heap.size 70 1 (.slice ac F.aliases.length ae) F.aliases.length<|sa)∧(c4 A C.heap.size 51 sa F.aliases)∧(bm A C.heap.size 131 5 (v20) F.bo.length<|kU F.bo)∧(A.heap[Y]? =some (.cells (jG F ⟨O,.slice ac F.aliases.length ae,v20,.slice a12 F.rules.length jY,V.sa,V.rn⟩).toArray 58 (0,0)))∧(Wk Z A)∧(C.heap.size≤A.heap.size)∧(aK 2=aU bf)∧(aK 3=aU Y)∧(aK 47=aj (F.rules.length))∧(aK 48=aj i)∧(F.rules.length - i=ax)) _ ⟨0,V.rn,ab,dx,aa,(c4.nil _ _ _),bX,du,dj,db,dn,bP,cU,(ab),aa,aa,aa,aa,aa⟩ ?_
 rintro ax aK A ⟨i,rn,hi,dz,cc,bs,I,a5,a1,bN,a3,aS,aD,ea,dH,dI,dJ,dK,rfl⟩
 refine fx 2 dH<|fx 3 dI<|fx 47 dJ<|fx 48 dK<|ak fun ct=>p (lt aa aa)<|nl<|ct<|az fun cu=>cd aa (fun dc=> ?_) fun dc=> ?_
 refine aM<|cu<|az fun bd=>aB<|az fun cv=> ?_
 obtain ⟨vn,dQ,bq⟩:=c4.get (ai.wk aD).nx (show i < (F.rules.map (·.next)).length by rw [eJ]; omega)
 obtain ⟨bB,bC,rfl⟩:=bq.slice
 obtain ⟨q,bw⟩:∃ q,F.rules[i]? =some q:=⟨_,cx ab⟩
 have dw:(F.rules.map (·.next)).getD i []=q.next:=by rw [cO,fU,bw]; rfl
 have dv:=bV.2 q<|iL bw
 rw [← dw] at dv
 have bx:(F.rules.zip rn)[i]? =some (q,.slice bB ((F.rules.map (·.next)).getD i []).length bC):=iJ.2 ⟨bw,(wz cc).trans dQ⟩
 refine rg aa<|ao (aj i)<|p (bY (aj i) aa)<|nl<|cv ?_
 have J:(fun w'=>Wk A w') A.drew:=(Md.refl _ _).drew
 refine ei (fun w'=>Wk A w') 12 aa wide J<|bp 0 aa (fun _=>fa lD aa) (fun _=>J)<|dM 1 aa (fun w' ar=>ld jX aa<|Wk.aH ar<|(aX aS).trans aa) J<|bg 2 aa (aj i) J<|bp 3 aa (fun _=>fa lD aa) (fun _=>J)<|dM 4 aa (fun w' ar=>ld jX aa<|Wk.aH ar<|(aX aS).trans aa) J<|bg 5 aa (aj i) J<|bp 6 aa (fun _=>aW ks aa aa ab<|aC.ok ((aT I).2)<|k6 bx) (fun _=>J)<|bp 7 aa (fun _=>fa nE aa) (fun _=>J)<|dM 8 aa (fun w' ar=>ld kR aa<|Wk.aH ar<|gK (f:=dP) (m:=7) (fun _=>rfl) (aT I).2 bx 6 aw) J<|iQ 9 aa ag<|cl ou (pB bB ((F.rules.map (·.next)).getD i []).length bC (((F.rules.map (·.next)).getD i []).map aO) A.drew (aC.wk bq.c6.2 J) (by simp) (fun h=>Tg.pW bq (by simp) h) (pj _) ab) aa fun dS cn c5=> ?_
 obtain ⟨bv,bI⟩:=c5
 have c:Wk A cn:=J.trans bI
 have c8:=c
 have bk:(fun w'=>Wk A w') cn:=J.trans bI
 refine ⟨bk,?_⟩
 refine bp 10 aa (fun _=>aW ks aa aa ab<|aC.ok ((aT I).2)<|k6 bx) (fun _=>bk)<|bp 11 aa (fun _=>fa nE aa) (fun _=>bk)<|cQ 12 aa ag ag<|p6 (j:=i*7 +6) (aV I c) pD aa aa (eb bv) (by rw [ji]; omega) ab fun cj ah b1=> ?_
 rw [PR ab ab] at b1
 have cV:Wk Z cj:=Wk.own (aD.trans c) (aV I c) ah ab
 have dq:=bZ (eD bv (show C.heap.size≤A.heap.size by omega)) ah fun q a=>mi bv (aV I c) aw a
 have dg:=(bs.wk c).md ah<|iG (aV I c) aw
 have da:=(bN.wk c).md ah<|iG (aV I c) aw
 have ds:=bZ (aV a5 c) ah fun q a=>mi (aV a5 c) (aV I c) aw a
 have di:=bZ (aV a1 c) ah fun q a=>mi (aV a1 c) (aV I c) aw a
 have dl:=bZ (aV a3 c) ah fun q a=>mi (aV a3 c) (aV I c) aw a
 have df:=ah.aB (Wk.aB c aS) fun h=>by have :=(dd (aV I c) h).1; omega
 exact eh ag<|bn<|bd<|rg aa<|p (ad aa aa<|bR ab)<|p mv<|nl<|tn<|⟨_,ab,i+1,rn.set i dS,ab,(by rw [sy]; exact dz),(set_drop cc),(zW dg (by rw [eJ]; omega) ab<|Tg.jP dq),b1,ds,di,da,dl,df,cV,(by have :=c8.size; have :=ah.size; omega),aa,aa,aa,aa,aa⟩
 refine ext<|bc<|bc<|be<|bb<|ak fun bd=>p (cI vw aa (aa) (show ∀ j,j < 13→Hb.aH A.heap Y (0 +j)=(jG F ⟨O,.slice ac F.aliases.length ae,v20,.slice a12 F.rules.length jY,V.sa,V.rn⟩)[j]? from fun j aZ=>(aX aS).trans<|by match j,aZ with | 0,_=>rfl | 1,_=>rfl | 2,_=>rfl | 3,_=>rfl | 4,_=>rfl | 5,_=>rfl | 6,_=>rfl | 7,_=>rfl | 8,_=>rfl | 9,_=>rfl | 10,_=>rfl | 11,_=>rfl | 12,_=>rfl))<|e<|ga wq aa aa aa (vB (eb a5) (eb a1) (eb a3)<|eb I) (Wk.aB aD bD) aw fun dU aP cJ=>nl<|bd<|rt<|q8 aa (dy (cs:=jG F ⟨O,.slice ac F.aliases.length ae,v20,.slice a12 F.rules.length jY,V.sa,V.rn⟩) aa vw aa fun j aZ=>(bA.bu ⟨_,cJ⟩ j).trans aa) ?_
 have a0:∀ {t s n:Nat} {v:Value} {xs:List Value},bm A C.heap.size t s v n xs→bm dU w.heap.size t s v n xs:=fun h=>eD (bZ h aP fun q a h2=>by have :=(dd h a).1; omega) ab
 rw [eL ab,eL (by rw [eJ]; omega)] at bs
 have bU:∀ k,k=bf→∀ cur z,A.heap[k]?≠some (.cells cur 51 z):=gn (Wk.aB aD bD) aw
 exact ⟨⟨⟨O,.slice ac F.aliases.length ae,v20,.slice a12 F.rules.length jY,sa,rn⟩,aa,⟨a0 a5,a0 a1,(bN.md aP bU).mono ab,a0 a3,a0 I,(bs.md aP bU).mono ab⟩⟩,(bj.md.trans aD).trans' aP fun q a h=>by omega⟩
end Go.Hb.iW
section
namespace Go.Hb
open Go.Hb.jj Go.Hb.iW
noncomputable def j0 (r:List Tx):Nat×Int:=if r.length≠1 then (0,111) else eC (r.getD 0 []) 8192
def Gy (c w':World) (X:Except Nat bj) (v:Value):Prop :=(∃ x a,X= .ok x∧v= .tuple #[.agg [str x.1,a].toArray,.int .i64 (0:Nat)]∧bm w' c.heap.size 51 1 a x.2.length (x.2.map aO))∨(∃ e,X= .error e∧e≠0∧v= .tuple #[.agg [str [],.slice none 0 0].toArray,.int .i64 (e:Nat)])
theorem Ds {s:Tx} {i:Nat} (hi:i < s.length):(s.take<|i+1).drop i= [s.getD i 0]:=by
 rw [yB 0 (bX i) hi,kL (by rw [dT]; omega),List.nil_append]
theorem EJ (b:UInt8):m4 [b]=gJ b:=by unfold m4; rw [Hy]; cases gJ b <;> rfl
theorem Bj {F:aE} {x:Nat} (h:(dm F.bo x).isSome=true∨x∈F.sp):dJ F x=true :=by
 unfold dJ; rcases h with h | h
 · rw [h,Bool.or_true]
 · rw [decide_eq_true h]; rfl
theorem Ks {F:aE} {x:Nat} (h:(dm F.bo x).isSome=false) (h1:x∉F.sp):dJ F x=false :=by
 unfold dJ; rw [h,decide_eq_false h1]; rfl
theorem Qk {F:aE} (h:F.sp.length=5):[F.sp.getD 0 0,F.sp.getD 1 0,F.sp.getD 2 0,F.sp.getD 3 0,F.sp.getD 4 0]=F.sp:=by
 match F.sp,h with
 | [a,b,c,d,e],_=>rfl
theorem MZ (a:Option Addr) (c:Nat) (l:List Nat) (x:Nat) (w:World) (E:aC w.heap a (l.map aO)) (aq:l.length≤1048576):
 ba au 206 (aY [.slice a l.length c,aO x]) w (fun v w'=>(∃ k:Int,v= .int .i64 k∧(0≤k↔x∈l)∧ -1≤k∧k≤1048576)∧Wk w w'):=by
 refine enter func206 aa ntmps206 aa<|ak fun O=>ay<|O<|az fun U=>ak fun V=>ao (.slice a l.length c)<|p (bO mm aa aa)<|p mv<|nl<|V<|aB<|lp (fun C q M=> ∃ (i:Nat),(i≤l.length)∧(∀ j,j < i→l.getD j 0≠x)∧(M=w)∧(q 0= .slice a l.length c)∧(q 1=aO x)∧(q 7=aj (l.length))∧(q 8=aj i)∧(l.length - i=C)) _ ⟨0,ab,(fun j I=>by omega),aa,aa,aa,aa,aa,aa⟩ ?_
 rintro C q M ⟨i,hi,J,ah,al,am,an,ap,rfl⟩
 refine fx 0 al<|fx 1 am<|fx 7 an<|fx 8 ap ?_
 subst ah
 refine ak fun Y=>p (lt aa aa)<|nl<|Y<|az fun Z=>cd aa (fun ai=> ?_) fun ai=> ?_
 refine aM<|Z<|az fun A=>aB<|ak fun ac=>ao (aj i)<|p (bY (aj i) aa)<|nl<|ac<|ak fun ae=>ao (aO x)<|ao (.slice a l.length c)<|ao (aj i)<|p (aW bB aa aa ab<|aC.ok (E)<|cK ab)<|p (ld bM aa<|aC.jo E (show (l.map aO)[i]? =some (aO<|l.getD i 0) by rw [fU,cO,cx (by omega :i < l.length)]; rfl)) ?_
 refine p (bS aa aa)<|nl<|ae<|cd aa (fun G=> ?_) fun G=> ?_
 exact ak fun ag=>ao (aj i)<|p (bY (aj i) aa)<|nl<|ag<|rt<|br<|tr<|tr<|br<|tr<|a6 aa<|⟨⟨(i:Nat),aa,⟨fun _=>by obtain rfl :x=l.getD i 0:=ab; exact eR ab,fun _=>by omega⟩,ab,ab⟩,Md.refl _ _⟩
 exact aM<|bn<|A<|rg aa<|p (ad aa aa<|bR ab)<|p mv<|nl<|tn<|⟨_,ab,i+1,ab,(fun j I=>by rcases gC j i with h | h <;> first | exact J j h | (rw [show j=i by omega]; exact fun h2=>G<|by rw [h2])),aa,aa,aa,aa,aa,aa⟩
 exact ext<|bc<|bc<|be<|U<|ak fun A=>p aA<|nl<|A<|rt<|a6 aa<|⟨⟨-1,aa,⟨fun h=>absurd h ab,fun h=>by obtain ⟨j,I,e⟩:=oG 0 h; exact absurd e<|J j ab⟩,ab,ab⟩,Md.refl _ _⟩
theorem JK (a:Option Addr) (c:Nat) (l:List Nat) (x:Nat) (w:World) (A:aC w.heap a (l.map aO)) (G:l.length≤1048576):
 ba au 142 (aY [.slice a l.length c,aO x]) w (fun v w'=>v= .bool (decide (x∈l))∧Wk w w'):=by
 refine enter func142 aa ntmps142 aa<|ak fun i=>ay<|i<|ak fun q=>ao (.slice a l.length c)<|ao (aO x)<|e<|cl HU (MZ a c l x w A G) aa fun M O C=> ?_
 obtain ⟨⟨I,rfl,E,J⟩,hE7⟩:=C
 exact p (ge aa aa)<|ay<|q<|rt<|a6 aa<|⟨by show bL (decide (I≥0))=_; exact congrArg bL (decide_eq_decide.2 E),hE7⟩
theorem pE (ln er:Int) (w:World):
 ba au 87 (aY [.int .i64 ln,.int .i64 er]) w (fun v w'=>v= .agg [.int .i64 2,.int .i64 ln,.int .i64 er].toArray∧Wk w w'):=by
 exact enter func87 aa ntmps87 aa<|ak fun a=>e<|al mu fun G O I E A=>nl<|a<|ak fun c=>ao (.int .i64 ln)<|ao (.int .i64 er)<|p (cE (ps:= [(0,.int .i64 2),(1,.int .i64 ln),(2,.int .i64 er)]) (L:= [.int .i64 2,.int .i64 ln,.int .i64 er]) p5 aa<|aa)<|e<|cw gS aa aa aa aa (A) (by simp) fun U C i=>nl<|c<|rt<|q8 aa (dy (cs:= [.int .i64 2,.int .i64 ln,.int .i64 er]) aa jm aa fun j J=>i.bu j)<|⟨aa,E.md.trans' C fun q M h=>by omega⟩
theorem KG (n:Nat) (r:List Tx) (B:Nat) (a:Option Addr) (c:Nat) (w:World) (U:Tg w B 9 r.length (.slice a r.length c) (r.map str)) (Y:∀ x∈r,x.length≤70000) (ae:r.length≤70000):
 ba au 88 (aY [.agg [aj n,.slice a r.length c].toArray]) w (fun v w'=>v= .tuple #[aj ((j0 r).1),.int .i64 (j0 r).2]∧Wk w w'):=by
 refine enter func88 aa ntmps88 aa<|ak fun G=>e<|jq aa fun ac Z ad A C=> ?_
 have E:=U.wk A.md
 refine p aA<|ay<|G<|az fun I=>ak fun J=>p (fa rl aa)<|p (ld oo aa<|(C.aH 1).trans aa)<|p (bO gP aa aa)<|p (gO aa aa)<|nl<|J<|cd aa (fun V=> ?_) fun V=> ?_
 refine ak fun q=>p aA<|ay<|q<|rt<|tr<|f2 aa aa aa ?_
 have h1:r.length≠1:=ab
 exact ⟨by unfold j0; rw [if_pos h1]; rfl,A.md⟩
 refine aM<|I<|ak fun q=>p (fa rl aa)<|p (ld oo aa<|(C.aH 1).trans aa)<|p (aW dD aa aa ab<|aC.ok (E.c6.2)<|cK ab)<|p (ld cG aa<|cX.get (i:=0) E.c6.2 ab)<|e<|cl s7 (tT (r.getD 0 []) 8192 Z (by have :=Y _ (eR (d:= []) (show 0 < r.length by omega)); omega) ab) aa fun v12 ag O=> ?_
 obtain ⟨rfl,M⟩:=O
 refine p (xt aa aa)<|p (xt aa aa)<|p aA<|ay<|q<|rt<|f2 aa aa aa ?_
 have h1:¬r.length≠1:=ab
 exact ⟨by unfold j0; rw [if_neg h1]; rfl,A.md.trans M⟩
theorem Kz (B fb mc:Nat) (F:aE) (V:dG) (n:Nat) (r:List Tx) (bA:Nat) (ar:Option Addr) (cr:Nat) (w:World) (a3:cD w B fb mc F V) (ca:∃ seen,iV F [] seen) (cz:Tg w bA 9 r.length (.slice ar r.length cr) (r.map str)) (cP:∀ x∈r,x.length≤70000) (dn:r.length≤70000):
 ba au 89 (aY [aU fb,.agg [aO (F.sp.getD 0 0),aO (F.sp.getD 1 0),aO (F.sp.getD 2 0),aO (F.sp.getD 3 0),aO (F.sp.getD 4 0)].toArray,.agg [aj n,.slice ar r.length cr].toArray]) w (fun v w'=>Gy w w' (e8 F r) v∧Wk w w'):=by
 obtain ⟨seen,aF⟩:=ca
 have dm:=aF.len
 have dr:=uG<|r.getD 0 []
 refine enter func89 aa ntmps89 aa<|ak fun bB=>e<|jq aa fun aZ dF dj bo b7=>e<|jq aa fun df dK dk a4 b8=>e<|al m8 fun bh bx dl aK bi=> ?_
 have aG:Wk w bx:=bo.md.trans<|a4.md.trans aK.md
 have cN:=aK.md.B<|a4.md.B b7
 have bw:=aK.md.B b8
 have bp:=cz.wk aG
 have ce:=a3.wk aG
 have du:=bo.size
 have dv:=a4.size
 have dw:=aK.size
 refine ay<|bB<|az fun bH=>ak fun bQ=>p (fa rl aa)<|p (ld oo aa<|(bw.aH 1).trans aa)<|p (bO gP aa aa)<|p (gO aa aa)<|nl<|bQ<|cd aa (fun cA=> ?_) fun cA=> ?_
 exact ak fun aS=>p (cE (ps:= []) (L:= [.string ⟨⟨[]⟩⟩,.slice none 0 0]) lJ aa<|aa)<|e<|cw iu aa aa aa aa (bi) (by simp) fun dV co b6=>ay<|aS<|rt<|tr<|eo aa (dy (cs:= [str [],.slice none 0 0]) aa jF aa fun j C=>b6.bu j) dR<|⟨.inr ⟨111,KY ab,aw,aa⟩,aG.trans' co fun q c h=>by omega⟩
 have J:r.length=1:=ab
 have dp:(r.getD 0 []).length≤70000:=cP _<|eR ab
 refine aM<|bH<|ak fun aS=>p (fa rl aa)<|p (ld oo aa<|(bw.aH 1).trans aa)<|p (aW dD aa aa ab<|aC.ok (bp.c6.2)<|cK ab)<|p (ld cG aa<|cX.get (i:=0) bp.c6.2 ab)<|e<|cl vI (yU (r.getD 0 []) bx ab) aa fun v28 da cq=> ?_
 obtain ⟨rfl,am⟩:=cq
 have Z:=aG.trans am
 have ac:=am.B bi
 have dt:=am.size
 refine p mv<|p (xt aa aa)<|p (xt aa aa)<|p (xt aa aa)<|p (xt aa aa)<|p aA<|p aA<|p aA<|ay<|aS<|az fun bS=>ak fun bT=>p mv<|p (gO aa aa)<|nl<|bT<|cd aa (fun cB=> ?_) fun cB=> ?_
 exact ak fun aX=>p (cE (ps:= []) (L:= [.string ⟨⟨[]⟩⟩,.slice none 0 0]) lJ aa<|aa)<|p mv<|e<|cw iu aa aa aa aa (ac) (by simp) fun dW cp b9=>ay<|aX<|rt<|tr<|eo aa (dy (cs:= [str [],.slice none 0 0]) aa jF aa fun j C=>b9.bu j) dR<|⟨.inr ⟨_,wO J ab,ab,aa⟩,Z.trans' cp fun q c h=>by omega⟩
 have Y:(bq<|r.getD 0 []).2.2.2=0:=ab
 refine aM<|bS<|az fun aX=>ak fun bU=>p mv<|p (db u9 aa aa)<|p mv<|nl<|bU<|aB<|lp (fun ah E ax=> ∃ (i:Nat),(i≤(bq<|r.getD 0 []).1.length)∧(∀ j,j < i→gJ ((bq<|r.getD 0 []).1.getD j 0)=true)∧(Wk da ax)∧(E 0=aU fb)∧(E 4=aU aZ)∧(E 6=aU bh)∧(E 8=str (bq<|r.getD 0 []).1)∧(E 9=str (bq<|r.getD 0 []).2.1)∧(E 10= .bool (bq<|r.getD 0 []).2.2.1)∧(E 38=aj ((bq<|r.getD 0 []).1.length))∧(E 39=aj i)∧((bq<|r.getD 0 []).1.length - i=ah)) _ ⟨0,ab,(fun j C=>by omega),(Md.refl _ _),aa,aa,aa,aa,aa,aa,aa,aa,aa⟩ ?_
 rintro ah E ax ⟨i,hi,bt,A,cQ,cV,cW,cY,cZ,cS,cT,cU,rfl⟩
 refine fx 0 cQ<|fx 4 cV<|fx 6 cW<|fx 8 cY<|fx 9 cZ<|fx 10 cS<|fx 38 cT<|fx 39 cU<|ak fun bV=>p (lt aa aa)<|nl<|bV<|az fun bC=>cd aa (fun cC=> ?_) fun cC=> ?_
 refine aM<|bC<|az fun aL=>aB<|ak fun aN=>ao (aj i)<|p (bY (aj i) aa)<|nl<|aN<|ak fun ae=>ao (str (bq<|r.getD 0 []).1)<|ao (aj i)<|ao (aj i)<|p (ad aa aa<|bR ab)<|p (rT u9 aa aa aa ab)<|e<|cl Aj (EK (((bq<|r.getD 0 []).1.take<|i+1).drop i) ax<|by rw [Ds ab]; simp) aa fun dA dH ct=> ?_
 obtain ⟨rfl,cc⟩:=ct
 have bv:=Ds (s:=(bq<|r.getD 0 []).1) (i:=i) ab
 have a0:=A.trans cc
 refine p (no aa)<|nl<|ae<|cb aa (fun a7=> ?_) fun a7=> ?_
 have bb:gJ ((bq<|r.getD 0 []).1.getD i 0)=false :=by rw [← EJ,← bv]; simpa using a7
 exact ak fun ag=>p (cE (ps:= []) (L:= [.string ⟨⟨[]⟩⟩,.slice none 0 0]) lJ aa<|aa)<|e<|cw iu aa aa aa aa (Wk.B a0 ac) (by simp) fun dN cg bW=>ay<|ag<|rt<|br<|tr<|tr<|br<|tr<|eo aa (dy (cs:= [str [],.slice none 0 0]) aa jF aa fun j C=>bW.bu j) dR<|⟨.inr ⟨21,Bs J Y (.inl<|s5 ab bb),aw,aa⟩,(Z.trans a0).trans' cg fun q c h=>by omega⟩
 have bb:gJ ((bq<|r.getD 0 []).1.getD i 0)=true :=by rw [← EJ,← bv]; simpa using a7
 exact aM<|bn<|aL<|rg aa<|p (ad aa aa<|bR ab)<|p mv<|nl<|tn<|⟨_,ab,i+1,ab,(fun j C=>by rcases gC j i with h | h <;> first | exact bt j h | (rw [show j=i by omega]; exact bb)),a0,aa,aa,aa,aa,aa,aa,aa,aa,aa⟩
 refine ext<|bc<|bc<|be<|aX<|az fun aL=>aB<|az fun aN=>rg aa<|ao (str (bq<|r.getD 0 []).1)<|p (iy aa aa)<|ay<|aN<|cd aa (fun U=> ?_) fun U=> ?_
 exact ak fun ae=>p (cE (ps:= []) (L:= [.string ⟨⟨[]⟩⟩,.slice none 0 0]) lJ aa<|aa)<|e<|cw iu aa aa aa aa (Wk.B A ac) (by simp) fun dO ch bX=>ay<|ae<|rt<|br<|tr<|eo aa (dy (cs:= [str [],.slice none 0 0]) aa jF aa fun j C=>bX.bu j) dR<|⟨.inr ⟨21,Bs J Y (.inr U),aw,aa⟩,(Z.trans A).trans' ch fun q c h=>by omega⟩
 have an:=s6 (w:=(bq<|r.getD 0 []).1) fun j C=>bt j ab
 refine ak fun ae=>ao (str (bq<|r.getD 0 []).1)<|p (db u9 aa aa)<|p (gt aa aa)<|ay<|ae<|cd aa (fun cF=> ?_) fun cF=> ?_
 exact ak fun ag=>p (cE (ps:= []) (L:= [.string ⟨⟨[]⟩⟩,.slice none 0 0]) lJ aa<|aa)<|e<|cw iu aa aa aa aa (Wk.B A ac) (by simp) fun dP ci b0=>ay<|ag<|rt<|br<|tr<|eo aa (dy (cs:= [str [],.slice none 0 0]) aa jF aa fun j C=>b0.bu j) dR<|⟨.inr ⟨22,KZ J Y an U ab,aw,aa⟩,(Z.trans A).trans' ci fun q c h=>by omega⟩
 refine ak fun ag=>ao (.bool (bq<|r.getD 0 []).2.2.1)<|p (no aa)<|ay<|ag<|cb aa (fun ap=> ?_) fun ap=> ?_
 exact ak fun aP=>ao (str (bq<|r.getD 0 []).1)<|p (cE (ps:= [(0,str (bq<|r.getD 0 []).1)]) (L:= [str (bq<|r.getD 0 []).1,.slice none 0 0]) lJ aa<|aa)<|e<|cw iu aa aa aa aa (Wk.B A ac) (by simp) fun dQ cj b2=>ay<|aP<|rt<|br<|tr<|eo aa (dy (cs:= [str (bq<|r.getD 0 []).1,.slice none 0 0]) aa jF aa fun j C=>b2.bu j) dR<|⟨.inl ⟨_,.slice none 0 0,K0 J Y an U ab (by simpa using ap),aa,dI _ _ _ _⟩,(Z.trans A).trans' cj fun q c h=>by omega⟩
 refine aM<|bn<|aL<|ak fun aP=>ao (aU fb)<|ao (str (bq<|r.getD 0 []).2.1)<|e<|cl Ak (BD B fb mc F V (bq<|r.getD 0 []).2.1 ax (ce.wk<|am.trans A) aF.kd aF.al ab ab) aa fun c9 bd cu=> ?_
 obtain ⟨cJ,a1⟩:=cu
 have aI:=Z.trans<|A.trans a1
 have a6:=Wk.B (A.trans a1) ac
 obtain ⟨dc,dg,rfl,bs⟩:∃ a,∃ e:Nat,c9= .tuple #[a,aj e]∧((e=0∧∃ l,e9 F.kind F.aliases (bq<|r.getD 0 []).2.1= .ok l∧bm bd ax.heap.size 51 1 a l.length (l.map aO))∨(e≠0∧e9 F.kind F.aliases (bq<|r.getD 0 []).2.1= .error e)):=by
  rcases cJ with ⟨a,l,h1,h2,h3⟩ | ⟨a,e,h1,h2,h3⟩
  exact ⟨a,0,h1,.inl ⟨aa,l,h2,h3⟩⟩
  exact ⟨a,e,h1,.inr ⟨h2,h3⟩⟩
 refine p mv<|p (xt aa aa)<|p (xt aa aa)<|p aA<|ay<|aP<|az fun bE=>ak fun bF=>p mv<|p (gO aa aa)<|nl<|bF<|cd aa (fun cH=> ?_) fun cH=> ?_
 obtain ⟨cM,aq⟩:=bs.resolve_left fun h=>by omega
 exact ak fun aQ=>p (cE (ps:= []) (L:= [.string ⟨⟨[]⟩⟩,.slice none 0 0]) lJ aa<|aa)<|p mv<|e<|cw iu aa aa aa aa (a6) (by simp) fun dS ck b3=>ay<|aQ<|rt<|tr<|eo aa (dy (cs:= [str [],.slice none 0 0]) aa jF aa fun j C=>b3.bu j) dR<|⟨.inr ⟨_,La J Y an U ab (by simpa using ap) aq,cM,aa⟩,aI.trans' ck fun q c h=>by omega⟩
 obtain ⟨_,set,aq,av⟩:=bs.resolve_right fun h=>by omega
 obtain ⟨M,O,rfl⟩:=cR av
 have dq:=xj (fun l cL=>(aF.al l cL).1) aq
 refine aM<|bE<|az fun aQ=>ak fun bG=>p mv<|p (bO Ey aa aa)<|p mv<|nl<|bG<|aB<|lp (fun ah G bf=> ∃ (j:Nat),(j≤set.length)∧(∀ q,q < j→dJ F (set.getD q 0)=true)∧(Wk bd bf)∧(G 0=aU fb)∧(G 4=aU aZ)∧(G 6=aU bh)∧(G 8=str (bq<|r.getD 0 []).1)∧(G 13= .slice M set.length O)∧(G 75= .slice M set.length O)∧(G 76=aj (set.length))∧(G 77=aj j)∧(set.length - j=ah)) _ ⟨0,ab,(fun q c=>by omega),(Md.refl _ _),aa,aa,aa,aa,aa,aa,aa,aa,aa⟩ ?_
 rintro ah G bf ⟨j,C,a5,I,c0,c2,c3,c8,c1,c4,c5,c7,rfl⟩
 refine fx 0 c0<|fx 4 c2<|fx 6 c3<|fx 8 c8<|fx 13 c1<|fx 75 c4<|fx 76 c5<|fx 77 c7<|ak fun bJ=>p (lt aa aa)<|nl<|bJ<|az fun bK=>cd aa (fun cI=> ?_) fun cI=> ?_
 refine aM<|bK<|az fun aD=>aB<|ak fun bL=>p (aW Bw aa aa ab<|aC.ok ((aT<|aV av I).2)<|cK ab)<|p (ld bM aa<|aC.jo (aT<|aV av I).2 (show (set.map aO)[j]? =some (aO<|set.getD j 0) by rw [fU,cO,cx (by omega :j < set.length)]; rfl)) ?_
 refine ay<|bL<|ak fun bN=>ao (aU fb)<|p mv<|e<|cl vH (wX B fb mc F V (set.getD j 0) bf (a3.wk<|aI.trans I) ab) aa fun dB dL cv=> ?_
 obtain ⟨rfl,bj⟩:=cv
 have dx:=bj.size
 have dz:=I.size
 refine p mv<|p (xt aa aa)<|p (xt aa aa)<|e<|al qj fun de dE di bl b1=>e<|cw ov aa aa aa aa (b1) (by simp) fun bz cm dh=> ?_
 have ds:=bl.size
 have ai:Wk bd bz:=(I.trans<|bj.trans bl.md).trans' cm fun q c h=>by omega
 refine ay<|bN<|ak fun bg=>p mv<|p (no aa)<|p mv<|gb (t:=89) aa (fun a9=> ?_) fun a9=> ?_
 refine aR aa (Hd qL aa)<|aR aa mv<|eg aa aa aa<|cl HH (JK (some ⟨aZ,0,none⟩) 5 [F.sp.getD 0 0,F.sp.getD 1 0,F.sp.getD 2 0,F.sp.getD 3 0,F.sp.getD 4 0] (set.getD j 0) bz (aC.fO<|Wk.B ((am.trans<|A.trans a1).trans ai) cN)<|by simp) aa fun dC dM cy=> ?_
 obtain ⟨rfl,a2⟩:=cy
 rw [Qk a3.iS] at*
 refine aR aa (no aa)<|p (bI aa)<|nl<|bg<|cb aa (fun a8=> ?_) fun a8=> ?_
 exact ak fun bP=>p (cE (ps:= []) (L:= [.string ⟨⟨[]⟩⟩,.slice none 0 0]) lJ aa<|aa)<|e<|cw iu aa aa aa aa (Wk.B (ai.trans a2) a6) (by simp) fun dT cn b4=>ay<|bP<|rt<|br<|tr<|tr<|br<|tr<|eo aa (dy (cs:= [str [],.slice none 0 0]) aa jF aa fun j C=>b4.bu j) dR<|⟨.inr ⟨120,Lc J Y an U ab (by simpa using ap) aq (i:=j) ab (Ks (by simpa using a9)<|by simpa using a8),aw,aa⟩,(aI.trans<|ai.trans a2).trans' cn fun q c h=>by omega⟩
 exact aM<|bn<|aD<|rg aa<|p (ad aa aa<|bR ab)<|p mv<|nl<|tn<|⟨_,ab,j+1,ab,(fun q c=>by rcases gC q j with h | h <;> first | exact a5 q h | (rw [show q=j by omega]; exact Bj<|.inr<|by simpa using a8)),(ai.trans a2),aa,aa,aa,aa,aa,aa,aa,aa,aa⟩
 exact aJ aa<|aJ aa<|aJ aa<|aJ aa<|p (bD aa)<|nl<|bg<|cf aa<|aM<|bn<|aD<|rg aa<|p (ad aa aa<|bR ab)<|p mv<|nl<|tn<|⟨_,ab,j+1,ab,(fun q c=>by rcases gC q j with h | h <;> first | exact a5 q h | (rw [show q=j by omega]; exact Bj<|.inl<|by simpa using a9)),ai,aa,aa,aa,aa,aa,aa,aa,aa,aa⟩
 exact ext<|bc<|bc<|be<|aQ<|ak fun aD=>ao (str (bq<|r.getD 0 []).1)<|ao (.slice M set.length O)<|p (cE (ps:= [(0,str (bq<|r.getD 0 []).1),(1,.slice M set.length O)]) (L:= [str (bq<|r.getD 0 []).1,.slice M set.length O]) lJ aa<|aa)<|e<|cw iu aa aa aa aa (Wk.B I a6) (by simp) fun dU bk b5=>ay<|aD<|rt<|eo aa (dy (cs:= [str (bq<|r.getD 0 []).1,.slice M set.length O]) aa jF aa fun j C=>b5.bu j) dR<|⟨.inl ⟨((bq<|r.getD 0 []).1,set),.slice M set.length O,Bt J Y an U ab (by simpa using ap) aq (fun j C=>a5 j ab),aa,eD (bZ (aV av I) bk fun q c h=>by have :=(dd av c).1; have :=A.size; omega)<|by have :=A.size; omega⟩,(aI.trans I).trans' bk fun q c h=>by omega⟩
end Go.Hb
end
section
namespace Go.Hb.jU
open Go.Hb.jj Go.Hb.iW Go.Hb.sJ
theorem Mm:xf au 58 3=some (52,3):=ag
def ox (q:bj×Value):List Value:= [str q.1.1,q.2]
def jH (l:List (bj×Value)):List Value:=l.flatMap ox
theorem KW (l:List (bj×Value)) (q:bj×Value):jH (l++ [q])=jH l++ox q:=by simp [jH]
theorem KX (l:List (bj×Value)):(jH l).length=l.length*2:=nD (f:=ox) (m:=2) (fun _=>rfl) l
theorem oJ {w:World} {B e size n k:Nat} {v:Value} {xs:List Value} (h:bm w B e size v n xs) (hk:v.ownBlock=some k) (i:∀ cur z,w.heap[k]?≠some (.cells cur e z)):False:=by
 rcases h.2 with ⟨rfl,rfl⟩ | ⟨g,cap,cur,rfl,_,c,_⟩
 · cases hk
 · have a:g=k:=by simpa [gh] using hk
   subst a
   exact i _ _ c
structure kP (w:World) (B:Nat) (f:Value→Option Value) (xs:List bj):Prop where
 own:∀ s:Tx,bm w B 3 1 ((f<|str s).getD<|bz none 0 0) (idxs s xs).length ((idxs s xs).map gG)
 nil:∀ s:Tx,idxs s xs= []→(f<|str s).getD (bz none 0 0)=(bz none 0 0)
theorem kP.md {G:Nat→Prop} {w w':World} {B:Nat} {f:Value→Option Value} {xs:List bj} (h:kP w B f xs) (hm:Md G w w') (a:∀ k,G k→∀ cur z,w.heap[k]?≠some (.cells cur 3 z)):kP w' B f xs:=by
 refine ⟨fun s=> ?_,h.nil⟩
 refine bZ (h.own s) hm fun k hk i=> ?_
 exact oJ (h.own s) hk fun cur z c=>a k i cur z c
theorem yq {w:World} {B B' k n c:Nat} {v i:Value} {xs q:List Value} (h:bm w B 3 1 v n xs) (G:bm w B' 3 1 i c q) (hk:v.ownBlock=some k) (J:i.ownBlock=some k) (hn:0 < n) (Y:0 < c):xs[0]? =q[0]? :=by
 rcases h.2 with ⟨rfl,rfl⟩ | ⟨g,cap,cur,rfl,_,I,_,_,_,M⟩
 · omega
 · rcases G.2 with ⟨rfl,rfl⟩ | ⟨E,U,V,rfl,_,a,_,_,_,O⟩
   · omega
   · have A:g=k:=by simpa [gh] using hk
     have C:E=k:=by simpa [gh] using J
     subst A C
     rw [I] at a
     cases a
     rw [← M,← O,lT,lT,if_pos ab,if_pos ab]
theorem kP.sep {w:World} {B k:Nat} {f:Value→Option Value} {xs:List bj} {s t:Tx} (h:kP w B f xs) (E:s≠t) (hs:((f<|str s).getD<|bz none 0 0).ownBlock=some k):((f<|str t).getD<|bz none 0 0).ownBlock≠some k:=by
 intro a
 have q:idxs s xs≠[]:=fun e=>by rw [h.nil s e] at hs; cases hs
 have A:idxs t xs≠[]:=fun e=>by rw [h.nil t e] at a; cases a
 have he:=yq (h.own s) (h.own t) hs a (mB.2 q)<|mB.2 A
 cases h1:idxs s xs with
 | nil=>exact q h1
 | cons i l=>
   cases h2:idxs t xs with
   | nil=>exact A h2
   | cons j m=>
     rw [h1,h2] at he
     have C:i=j:=by have h:=he; simp only [nk,vc,Option.some.injEq,gG,Value.int.injEq,true_and] at h; omega
     subst C
     have m1:i∈idxs s xs:=by rw [h1]; simp
     have c:i∈idxs t xs:=by rw [h2]; simp
     unfold idxs at m1 c
     have G:=of_decide_eq_true (F7.1 m1).2
     have I:=of_decide_eq_true (F7.1 c).2
     exact E<|G.symm.trans I
theorem kP.put {w i G:World} {B mb:Nat} {f:Value→Option Value} {xs:List bj} {x:bj} {v:Value} (h:kP w B f xs) (hm:Md (fun k=>((f<|str x.1).getD<|bz none 0 0).ownBlock=some k) w i)
 (E:bm i B 3 1 v (idxs x.1 xs++ [xs.length]).length ((idxs x.1 xs++ [xs.length]).map gG)) (C:∀ cur z,i.heap[mb]?≠some (.cells cur 3 z)) (A:Md (fun k=>k=mb) i G):kP G B (bw f (str x.1) v) (xs++ [x]):=by
 refine ⟨fun s=> ?_,fun s hs=> ?_⟩
 · by_cases a:x.1=s
   · subst a
     rw [rL,xL,if_pos rfl]
     exact bZ E A fun k hk c=>oJ E hk fun cur z q=>C cur z<|c ▸ q
   · rw [pZ (fun e=>a (str_inj.1 e).symm),xL,if_neg a,dS]
     have h1:=bZ (h.own s) hm fun k hk c=>h.sep a c hk
     exact bZ h1 A fun k hk c=>oJ h1 hk fun cur z q=>C cur z<|c ▸ q
 · rw [xL] at hs
   by_cases a:x.1=s
   · rw [if_pos a] at hs; simp at hs
   · rw [if_neg a,dS] at hs
     rw [pZ (fun e=>a (str_inj.1 e).symm)]; exact h.nil s hs
structure jD (w:World) (B wb mb:Nat) (va:Value) (vs:List Value) (xs:List bj):Prop where
 cells:w.heap[wb]? =some (.cells [va,.map (some mb)].toArray 186 (0,0))
 own:bm w B 72 2 va xs.length (jH<|xs.zip vs)
 fl:c4 w B 51 vs (xs.map (·.2))
 mp:∃ f,bQ w.heap mb gv f∧kP w B f xs
theorem jD.md {G:Nat→Prop} {w w':World} {B wb mb:Nat} {va:Value} {vs:List Value} {xs:List bj} (h:jD w B wb mb va vs xs) (hm:Md G w w') {L:List Nat} (a:TF w L G) (i:(L.contains 188 || L.contains 74 || L.contains 53 || L.contains 5)=false) (C:¬G mb):jD w' B wb mb va vs xs:=by
 simp only [nW] at i
 obtain ⟨⟨⟨h1,h2⟩,h3⟩,h4⟩:=i
 obtain ⟨f,q,A⟩:=h.mp
 exact ⟨hm.iY a h.cells h1,cM h.own hm a h2,h.fl.md hm (fun k hk cur z c=>a.no (di c) h3 hk),⟨f,q.md hm C,A.md hm fun k hk cur z c=>a.no (di c) h4 hk⟩⟩
theorem jD.wk {w w':World} {B wb mb:Nat} {va:Value} {vs:List Value} {xs:List bj} (h:jD w B wb mb va vs xs) (hm:Wk w w'):jD w' B wb mb va vs xs:=h.md (L:= []) hm (fun _ hk=>hk.elim) rfl id
theorem KE {F:aE} {t:Tx} {ln:Nat} {row:List Tx} {rows:List Rw} (h:¬65536 < t.length) (h1:ec t=(ln,row)::rows) (h2:(j0 row).2≠0):∃ e:Nat,(j0 row).2=(e:Int)∧eQ F t= .error (ln,e):=by
 unfold j0 at h2 ⊢
 by_cases a:row.length≠1
 · rw [if_pos a]; exact ⟨111,rfl,KH h h1 a⟩
 · rw [if_neg a] at h2 ⊢
   have h3:=tR (s:=row.getD 0 []) (most:=8192) h2
   exact ⟨13,h3.2,KL h h1 (lf.1 a) h3.1⟩
theorem KF {F:aE} {t:Tx} {ln:Nat} {row:List Tx} {rows:List Rw} (h:¬65536 < t.length) (h1:ec t=(ln,row)::rows) (h2:(j0 row).2=0):∃ n:Nat,(j0 row).1=n∧n≤8192∧eQ F t=dY F ((cJ t).length+1) n rows:=by
 unfold j0 at h2 ⊢
 by_cases a:row.length≠1
 · rw [if_pos a] at h2; cases h2
 · rw [if_neg a] at h2 ⊢
   exact ⟨_,aa,by have :=tQ (row.getD 0 []) 8192 h2; omega,Bn h h1 (lf.1 a)<|tS h2⟩
theorem Eu {u:Tx} {a:Value} (h:a.oneCell'=true):[str u,a].all eH=true :=by rw [u4,u4,h]; rfl
def Gz (l e:Nat):Value:= .agg [.int .i64 2,.int .i64 (l:Nat),.int .i64 (e:Nat)].toArray
def Gx (w':World) (B0:Nat) (xs:List bj) (v:Value):Prop := ∃ B wb mb va vs,B0≤B∧v= .tuple #[.pointer (some ⟨wb,0,none⟩),.agg [.int .i64 0,.int .i64 0,.int .i64 0].toArray]∧jD w' B wb mb va vs xs∧B0≤wb∧B0≤mb
def Gv (e:Nat×Nat) (v:Value):Prop :=v= .tuple #[.pointer none,Gz e.1 e.2]
def jV (F:aE) (t:Tx) (w:World) (v:Value) (w':World):Prop :=(match eQ F t with | .ok xs=>Gx w' w.heap.size xs v | .error e=>Gv e v)∧Wk w w'
theorem jV.no {F:aE} {t:Tx} {w w':World} {l e:Nat} (h:eQ F t= .error (l,e)) (hm:Wk w w'):jV F t w (.tuple #[.pointer none,.agg [.int .i64 2,.int .i64 (l:Nat),.int .i64 (e:Nat)].toArray]) w':=by
 unfold jV; rw [h]; exact ⟨rfl,hm⟩
theorem KO (B fb mc:Nat) (F:aE) (V:dG) (t:Tx) (w:World) (cz:cD w B fb mc F V) (d0:∃ seen,iV F [] seen) (e5:Nx F) (hs:t.length≤1048576):
 ba au 46 (aY [aU fb,str t]) w (jV F t w):=by
 refine enter func46 aa ntmps46 aa<|ak fun dg=>p aA<|e<|gR mu fun bL fB fP cB cp=> ?_
 have co:bA fB.heap bL [.int .i64 0,.int .i64 0,.int .i64 0]:=⟨_,cp⟩
 refine nl<|dg<|az fun dr=>ak fun dv=>ao (aU fb)<|p (kY r4 aa aa)<|nl<|dv<|cf (aa)<|aM<|dr<|ak fun dw=>ao (str t)<|e<|cl AM (Ea t _ hs) aa fun gu cg em=> ?_
 obtain ⟨⟨fG,rfl,cP⟩,hE22⟩:=em
 have cy:=cB.md.trans hE22
 have ge:=cB.size
 refine p mv<|p (xt aa aa)<|p (xt aa aa)<|p aA<|ay<|dw<|az fun dx=>ak fun dz=>p mv<|p (gO aa aa)<|nl<|dz<|cd aa (fun b8=> ?_) fun b8=> ?_
 have cM:65536 < t.length:=uO fun h=>b8<|by rw [if_neg h]
 refine ak fun bI=>p mv<|e<|cl pA (pE 0 (if 65536 < t.length then 10 else 0) cg) aa fun v28 gF en=> ?_
 obtain ⟨rfl,bN⟩:=en
 have f9:=(hE22.trans bN).size
 refine p aA<|e<|cw gS aa aa aa aa (Wk.B (hE22.trans bN) co) (by simp) fun gW ee dX=>nl<|bI<|rt<|tr<|eo aa dR (dy (cs:= [.int .i64 2,.int .i64 0,.int .i64 (if 65536 < t.length then 10 else 0)]) aa jm aa fun j an=>dX.bu j) ?_
 have h:=jV.no (F:=F) (KJ cM)<|(cy.trans bN).trans' ee fun q C h=>by omega
 show jV F t w (.tuple #[.pointer none,.agg [.int .i64 2,.int .i64 0,.int .i64 (if 65536 < t.length then 10 else 0)].toArray]) _
 rw [if_pos cM]
 exact h
 have a8:¬65536 < t.length:=fun h=>b8<|by rw [if_pos h]; decide
 rw [if_neg a8] at cP
 obtain ⟨da,cj,rfl⟩:=cR cP
 have fV:=oF t
 refine aM<|dx<|ak fun bI=>ao (str t)<|e<|cl AL (DR t _ hs) aa fun v31 av ep=> ?_
 obtain ⟨⟨a31,rfl,cO⟩,hE31⟩:=ep
 rw [if_neg a8] at cO
 obtain ⟨dc,bv,bw⟩:=cO
 obtain ⟨ar,cr,rfl⟩:=cR bv
 have aD:=cy.trans hE31
 have aZ:=Wk.B (hE22.trans hE31) co
 have gb:=(hE22.trans hE31).size
 have c8:=DP t
 refine p mv<|p (xt aa aa)<|p (xt aa aa)<|p aA<|ay<|bI<|az fun dB=>ak fun dC=>p mv<|p (bO uw aa aa)<|p (bS aa aa)<|nl<|dC<|cd aa (fun b9=> ?_) fun b9=> ?_
 have e4:ec t= []:=gi ab
 refine ak fun bx=>p mv<|p (bO gP aa aa)<|p (bG (((cJ t).length+1:Nat):Int) aa aa<|bd ab ab)<|e<|cl pA (pE ((cJ t).length+1:Nat) 116 av) aa fun v40 gH er=> ?_
 obtain ⟨rfl,bP⟩:=er
 have gc:=bP.size
 exact p aA<|e<|cw gS aa aa aa aa (Wk.B bP aZ) (by simp) fun gX ef dY=>nl<|bx<|rt<|tr<|eo aa dR (dy (cs:= [.int .i64 2,aj ((cJ t).length+1),.int .i64 116]) aa jm aa fun j an=>dY.bu j)<|jV.no (KK a8 e4)<|(aD.trans bP).trans' ef fun q C h=>by omega
 obtain ⟨⟨db,aQ⟩,rest,U⟩:∃ q rest,ec t=q::rest:=by
  cases h:ec t with
  | nil=>rw [h] at b9; exact absurd rfl b9
  | cons q rest=>exact ⟨q,rest,rfl⟩
 have cc:=bw.1
 rw [U] at bv bw cc c8
 obtain ⟨⟨aP,fv⟩,rvs',rfl⟩:∃ q ce,dc=q::ce:=by
  cases dc with
  | nil=>exact absurd cc<|by simp
  | cons q ce=>exact ⟨q,ce,rfl⟩
 obtain ⟨fe,c6⟩:=bw.2 0 (aP,fv) (db,aQ) rfl rfl
 obtain rfl :aP=db:=fe
 obtain ⟨a0,dD,rfl⟩:=c6.slice
 have a5:=(aT bv).2
 have eU:=(aT bv).1
 have cV:∀ q∈(aP,aQ)::rest,q.2.length≤70000∧∀ x∈q.2,x.length≤70000:=fun q C=>by
  have h:=DQ (show q∈ec t by rw [U]; exact C)
  exact ⟨ab,fun x fr=>by have :=(h.2.2.2.2 x fr).2; omega⟩
 have cU:=cV _<|oY ..
 simp only [bT] at cc c8 eU
 refine aM<|dB<|ak fun bx=>p mv<|p (aW pJ aa aa (by rw [U]; simp only [bT]; omega)<|aC.ok (a5)<|ua<|by simp)<|p (cI sQ aa (aa)<|ub (i:=0) a5 aa)<|e<|cl IM (KG aP aQ cg.heap.size a0 dD av c6 cU.2 cU.1) aa fun gw fA es=> ?_
 obtain ⟨rfl,aI⟩:=es
 have gd:=aI.size
 refine p mv<|p (xt aa aa)<|p (xt aa aa)<|p aA<|ay<|bx<|az fun dh=>ak fun dj=>p mv<|p (gO aa aa)<|nl<|dj<|cd aa (fun cN=> ?_) fun cN=> ?_
 obtain ⟨fK,eW,b6⟩:=KE (F:=F) a8 U cN
 refine ak fun bB=>p mv<|p (aW pJ aa aa (by rw [U]; simp only [bT]; omega)<|aC.ok (a5.wk aI)<|ua<|by simp)<|p (fa tG aa)<|p (ld bW aa<|ub (i:=0) (a5.wk aI) aa 0 aw)<|p mv<|e<|cl pA (pE (aP:Nat) (j0 aQ).2 fA) aa fun gx gI et=> ?_
 obtain ⟨rfl,bU⟩:=et
 have gf:=bU.size
 refine p aA<|e<|cw gS aa aa aa aa (Wk.B (aI.trans bU) aZ) (by simp) fun gN d8 dJ=>nl<|bB<|rt<|tr<|eo aa dR (dy (cs:= [.int .i64 2,aj aP,.int .i64 (j0 aQ).2]) aa jm aa fun j an=>dJ.bu j) ?_
 have h:=jV.no b6<|(aD.trans<|aI.trans bU).trans' d8 fun q C h=>by omega
 show jV F t w (.tuple #[.pointer none,.agg [.int .i64 2,aj aP,.int .i64 (j0 aQ).2].toArray]) _
 rw [eW]
 exact h
 obtain ⟨n,cX,fW,b6⟩:=KF (F:=F) a8 U (show (j0 aQ).2=0 by omega)
 have d7:=cz.wk<|aD.trans aI
 obtain ⟨seen,cq⟩:=d0
 have fT:=cq.len
 refine aM<|dh<|ak fun bB=>e<|rF fun Y gJ fQ b4 dV=> ?_
 have gg:=b4.size
 refine p (cE (ps:= [(1,.map (some Y))]) (L:= [.slice none 0 0,.map (some Y)]) Qu aa<|aa)<|e<|qO aa fun E fC fR bl dW=> ?_
 have gh:=bl.size
 have d4:=aI.trans<|b4.md.trans bl.md
 refine ay<|bB<|ak fun dk=>ao (aU fb)<|e<|cl qR (qG B fb mc F V fC (d7.wk<|b4.md.trans bl.md) ab e5) aa fun gy gK eu=> ?_
 obtain ⟨⟨fF,rfl,_⟩,hE60⟩:=eu
 have gj:=hE60.size
 refine p (L0 Mm zQ aa aa)<|e<|al RY fun bJ gA fM bi dK=> ?_
 have f1:=bi.size
 refine e<|cw Kn aa aa aa aa (dK) (by simp) fun M bf dL=> ?_
 have d2:Wk av M:=(d4.trans<|hE60.trans bi.md).trans' bf fun q C h=>by omega
 have f3:=bf.size
 have eN:M.heap[E]? =some (.cells [.slice none 0 0,.map (some Y)].toArray 186 (0,0)):=bf.aB (Wk.aB (hE60.trans bi.md) dW) fun h=>by omega
 have e1:bQ M.heap Y gv (fun _=>none):=bQ.md (bQ.wk (bQ.nil dV)<|bl.md.trans<|hE60.trans bi.md) bf fun h=>by omega
 have eC:jD M M.heap.size E Y (.slice none 0 0) [] []:=⟨eN,dI _ _ _ _,c4.nil _ _ _,⟨_,e1,⟨fun s=>dI _ _ _ _,fun s _=>rfl⟩⟩⟩
 have eK:bA M.heap bJ [aO (F.sp.getD 0 0),aO (F.sp.getD 1 0),aO (F.sp.getD 2 0),aO (F.sp.getD 3 0),aO (F.sp.getD 4 0)]:=dL
 have ct:aC av.heap (ez ar cr 1 2) (kF rvs'):=by
  have h:=a5.drop (cap:=cr) (k:=1) (size:=2)<|by rw [DU]; simp only [bT]; omega
  exact h
 have eF:gD F ((cJ t).length+1) (eQ F t) [] (n - 0) (rest.drop 0):=by rw [b6]; exact gD.start
 refine nl<|dk<|az fun dl=>ak fun dm=>p mv<|p (rS pJ aa aa<|by rw [U]; simp only [bT]; omega)<|p (bO uw aa aa)<|p mv<|nl<|dm<|aB<|lp (fun cm ae ax=> ∃ (i:Nat) (xs:List bj) (vs:List Value) (va:Value),(i≤rest.length∧i≤n)∧(xs.length=i)∧(gD F ((cJ t).length+1) (eQ F t) xs (n - i)<|rest.drop i)∧(jD ax M.heap.size E Y va vs xs)∧(Wk av ax)∧(bA ax.heap bJ [aO (F.sp.getD 0 0),aO (F.sp.getD 1 0),aO (F.sp.getD 2 0),aO (F.sp.getD 3 0),aO (F.sp.getD 4 0)])∧(M.heap.size≤ax.heap.size)∧(ae 0=aU fb)∧(ae 5=aU bL)∧(ae 6= .slice da (cJ t).length cj)∧(ae 10=aj n)∧(ae 11=aU E)∧(ae 12=aU bJ)∧(ae 63= .slice (ez ar cr 1 2) rest.length (cr - 1))∧(ae 64=aj (rest.length))∧(ae 65=aj i)∧(rest.length - i=cm)) _ ⟨0,[],[],.slice none 0 0,ab,aa,eF,eC,d2,eK,(bX _),aa,aa,aa,(by first | rfl | (rw [← cX]; rfl)),aa,aa,(by first | rfl | (rw [U]; rfl)),(by first | rfl | (rw [U]; rfl)),aa,aa⟩ ?_
 rintro cm ae ax ⟨i,xs,vs,va,hi,c9,ah,aS,O,cK,gq,ff,fj,fk,fg,fh,fi,fm,fo,fq,rfl⟩
 refine fx 0 ff<|fx 5 fj<|fx 6 fk<|fx 10 fg<|fx 11 fh<|fx 12 fi<|fx 63 fm<|fx 64 fo<|fx 65 fq<|ak fun dn=>p (lt aa aa)<|nl<|dn<|az fun dq=>cd aa (fun eR=> ?_) fun eR=> ?_
 refine aM<|dq<|az fun bC=>aB<|az fun bD=> ?_
 obtain ⟨⟨ln,r⟩,hri⟩:∃ q,rest[i]? =some q:=⟨_,cx ab⟩
 have eV:rest.drop i=(ln,r)::rest.drop (i+1):=by rw [List.drop_eq_getElem_cons ab]; rw [cx ab] at hri; rw [Option.some.inj hri]
 obtain ⟨p,c7⟩:∃ p,rvs'[i]? =some p:=⟨_,cx ab⟩
 obtain ⟨dE,cH⟩:=bw.2 (i+1) p (ln,r) c7 hri
 obtain ⟨fu,gs⟩:=p
 obtain rfl :ln=fu:=dE.symm
 obtain ⟨a,c,rfl⟩:=cH.slice
 have cW:=cV (ln,r)<|List.mem_cons_of_mem _<|iL hri
 rw [eV] at ah
 refine rg aa<|ao (aj i)<|p (aW pJ aa aa ab<|aC.ok (ct.wk O)<|ua ab)<|p (cI sQ aa (aa)<|ub (ct.wk O) c7)<|e<|al E5 fun ci gC bq b3 dN=> ?_
 have f4:=b3.size
 refine p (bY (aj i) aa)<|e<|cw A5 aa aa aa aa (dN) (by simp) fun a2 b2 dO=> ?_
 have bb:Wk av a2:=(O.trans b3.md).trans' b2 fun q C h=>by omega
 have cu:Wk ax a2:=b3.md.trans' b2 fun q C h=>by omega
 have bq:bA a2.heap ci [aj ln,.slice a r.length c]:=dO
 have f6:=b2.size
 refine nl<|bD<|az fun a3=>ak fun ds=>ao (aj i)<|ao (aj n)<|p (bS aa aa)<|nl<|ds<|cd aa (fun eS=> ?_) fun eS=> ?_
 refine ak fun bE=>p (fa tG aa)<|p (ld bW aa<|(bq.aH 0).trans aa)<|e<|cl pA (pE (ln:Nat) 116 a2) aa fun v75 gL ev=> ?_
 obtain ⟨rfl,bV⟩:=ev
 have gk:=bV.size
 refine p aA<|e<|cw gS aa aa aa aa (Wk.B (bb.trans bV) aZ) (by simp) fun gQ d9 dP=>nl<|bE<|rt<|tr<|br<|tr<|tr<|br<|tr<|eo aa dR (dy (cs:= [.int .i64 2,aj ln,.int .i64 116]) aa jm aa fun j an=>dP.bu j) ?_
 rw [show n - i=0 by omega] at ah
 exact jV.no ah.more<|(aD.trans<|bb.trans bV).trans' d9 fun q C h=>by omega
 refine aM<|a3<|ak fun bE=>ao (aU fb)<|p (cI zQ aa (aa) fun j an=>(Wk.B cu cK).bu j)<|p (cI sQ aa (aa) fun j an=>bq.bu j)<|e<|cl IN (Kz B fb mc F V ln r cg.heap.size a c a2 (cz.wk<|aD.trans bb) ⟨seen,cq⟩ (cH.wk bb) cW.2 cW.1) aa fun fy fD ew=> ?_
 obtain ⟨d6,b0⟩:=ew
 obtain ⟨A,a4,ck,rfl,c5,cS⟩:∃ (u:Tx) (a:Value) (e:Nat),fy= .tuple #[.agg [str u,a].toArray,aj e]∧a.oneCell'=true∧((e=0∧∃ l,e8 F r= .ok (u,l)∧bm fD a2.heap.size 51 1 a l.length (l.map aO))∨(e≠0∧e8 F r= .error e)):=by
  rcases d6 with ⟨x,a,h1,h2,h3⟩ | ⟨e,h1,h2,h3⟩
  exact ⟨x.1,a,0,h2,eb h3,.inl ⟨aa,x.2,h1,h3⟩⟩
  exact ⟨_,_,e,h3,aa,.inr ⟨h2,h1⟩⟩
 have gl:=b0.size
 refine p mv<|p (xt aa aa)<|p (xt aa aa)<|e<|gR m8 fun bK gE fN bk cn=> ?_
 have f5:=bk.size
 refine e<|ga iu aa aa aa (Eu c5) cn aw fun aq bh dQ=> ?_
 have aR:Wk ax aq:=(cu.trans<|b0.trans bk.md).trans' bh fun q C h=>by omega
 have cL:aq.heap[bK]? =some (.cells [str A,a4].toArray 72 (0,0)):=dQ
 have f7:=bh.size
 have eL:bA aq.heap ci [aj ln,.slice a r.length c]:=bh.B (Wk.B (b0.trans bk.md) bq) fun h=>by omega
 refine ay<|bE<|az fun dt=>ak fun du=>p mv<|p (gO aa aa)<|nl<|du<|cd aa (fun eT=> ?_) fun eT=> ?_
 obtain ⟨fX,hex⟩:=cS.resolve_left fun h=>by omega
 refine ak fun bH=>p (fa tG aa)<|p (ld bW aa<|(eL.aH 0).trans aa)<|p mv<|e<|cl pA (pE (ln:Nat) (ck:Nat) aq) aa fun gz gM ex=> ?_
 obtain ⟨rfl,b1⟩:=ex
 have gm:=b1.size
 exact p aA<|e<|cw gS aa aa aa aa (Wk.B (O.trans<|aR.trans b1) aZ) (by simp) fun gT ea dS=>nl<|bH<|rt<|tr<|br<|tr<|tr<|br<|tr<|eo aa dR (dy (cs:= [.int .i64 2,aj ln,aj ck]) aa jm aa fun j an=>dS.bu j)<|jV.no (ah.bad ab hex)<|(aD.trans<|O.trans<|aR.trans b1).trans' ea fun q C h=>by omega
 obtain ⟨_,aN,hex,e9⟩:=cS.resolve_right fun h=>by omega
 have bo:=aS.wk aR
 have e3:¬(va.ownBlock=some E):=dp bo.own bo.cells aw
 have e2:¬(va.ownBlock=some bK):=fun h=>by have :=(dd aS.own h).2; omega
 have gr:=aR.size
 refine aM<|dt<|az fun bH=> ?_
 have aL:(fun w'=>Md (fun q=>va.ownBlock=some q) aq w') aq.drew:=(Md.refl _ _).drew
 refine ei (fun w'=>Md (fun q=>va.ownBlock=some q) aq w') 10 aa wide aL<|bg 0 aa (aU E) aL<|bg 1 aa (aU E) aL<|bp 2 aa (fun _=>nc aa) (fun _=>aL)<|bp 3 aa (fun _=>fa tF aa) (fun _=>aL)<|dM 4 aa (fun w' I=>ld qJ aa<|Md.aH I ((aX bo.cells).trans aa) e3) aL<|dM 5 aa (fun w' I=>cI jF aa (aa) fun j an=>bA.bu ⟨_,Md.aB I cL e2⟩ j) aL<|iQ 6 aa ag<|nB um aa aa aa fun fJ fE fS ej dZ=> ?_
 have aJ:=gY ej.md
 have J:=bo.wk aJ
 have gp:=aJ.size
 have cC:(fun w'=>Md (fun q=>va.ownBlock=some q) aq w') fE:=Md.mono aJ fun _ _ h=>h.elim
 refine ⟨cC,?_⟩
 refine iQ 7 aa ag<|ap um (J.own) aa ab aa (aC.fO dZ) (aa) (Eu c5) ab ab fun a9 ch c2 ac ft fU=> ?_
 obtain ⟨f,cT,eZ⟩:=J.mp
 have a6:=ac.aB J.cells<|dp J.own J.cells aw
 have c3:bm ch M.heap.size 72 2 a9 (xs++ [(A,aN)]).length (jH<|(xs++ [(A,aN)]).zip<|vs++ [a4]):=by
  have e0:xs.length=vs.length:=by have :=J.fl.1; rw [eJ] at this; omega
  rw [List.zip_append e0,List.zip_cons_cons,List.zip_nil_right,KW,bF]; exact c2
 have ft:=ac.size
 have eG:=ac.B (Wk.B (aR.trans aJ) cK) fun h=>by have :=(dd J.own h).1; omega
 have eM:=ac.aB (Wk.aB aJ cL) fun h=>by have :=(dd aS.own h).2; omega
 have d5:Wk av ch:=(O.trans<|aR.trans aJ).trans' ac fun q C h=>by have :=(dd J.own h).1; omega
 have b5:(fun w'=>Md (fun q=>va.ownBlock=some q) aq w') ch:=cC.trans' ac fun _ _ h=>h
 refine ⟨b5,?_⟩
 refine bp 8 aa (fun _=>nc aa) (fun _=>b5)<|bp 9 aa (fun _=>fa tF aa) (fun _=>b5)<|cQ 10 aa ag ag<|dA Be aa aa (v:=a9) (eb c2) a6 (by show _ < 2; omega) fun aF ai dF=> ?_
 have bs:aF.heap[E]? =some (.cells [a9,.map (some Y)].toArray 186 (0,0)):=dF
 have fY:=ai.size
 have d1:Wk av aF:=d5.trans' ai fun q C h=>by omega
 have eH:=ai.B eG fun h=>by omega
 have b7:=ai.aB eM fun h=>by omega
 have c0:=bZ c3 ai fun q C h=>dp c3 a6 aw<|h ▸ C
 have eA:Tg aF M.heap.size 51 aN.length a4 (aN.map aO):=((((((Tg.jP e9).mono ab).wk bk.md).md bh<|gn cn aw).wk aJ).md ac<|iG J.own aw).md ai<|gn a6 aw
 have eX:=((J.fl.md ac<|iG J.own aw).md ai<|gn a6 aw).snoc eA
 have ca:=(cT.md ac fun h=>oJ J.own h fun cur z=>cT.mX).md ai fun h=>by omega
 have bt:=(eZ.md ac<|iG J.own aw).md ai<|gn a6 aw
 have cb:¬(((f<|str A).getD<|bz none 0 0).ownBlock=some E):=dp (bt.own A) bs aw
 have cY:¬(((f<|str A).getD<|bz none 0 0).ownBlock=some bK):=dp (bt.own A) b7 aw
 have cZ:¬(((f<|str A).getD<|bz none 0 0).ownBlock=some Y):=fun h=>oJ (bt.own A) h fun cur z=>ca.mX
 refine eh ag<|bH ?_
 have G:(fun w'=>Md (fun q=>((f<|str A).getD<|bz none 0 0).ownBlock=some q) aF w') aF.drew:=(Md.refl _ _).drew
 refine ei (fun w'=>Md (fun q=>((f<|str A).getD<|bz none 0 0).ownBlock=some q) aF w') 16 aa wide G<|lq 0 aa ag (fun _ _=>aG (aU E) aa) G<|lq 1 aa ag (fun _ _=>nc aa) G<|lq 2 aa ag (fun _ _=>fa B8 aa) G<|lq 3 aa ag (fun w' I=>ld zO aa<|Md.aH I ((aX bs).trans aa) cb) G<|lq 4 aa ag (fun _ _=>fa tK aa) G<|lq 5 aa ag (fun w' I=>ld cG aa<|Md.aH I ((aX b7).trans aa) cY) G<|lq 6 aa ag (fun _ _=>aG (aU E) aa) G<|lq 7 aa ag (fun _ _=>nc aa) G<|lq 8 aa ag (fun _ _=>fa B8 aa) G<|lq 9 aa ag (fun w' I=>ld zO aa<|Md.aH I ((aX bs).trans aa) cb) G<|lq 10 aa ag (fun _ _=>fa tK aa) G<|lq 11 aa ag (fun w' I=>ld cG aa<|Md.aH I ((aX b7).trans aa) cY) G<|lq 12 aa ag (fun w' I=>me Ex Sc fZ (bQ.md (ca) I cZ) aa aa (⟨_,aa⟩)<|aa) G<|lq 13 aa ag (fun _ _=>aG (aj i) aa) G<|iQ 14 aa ag<|kT p4 aa aa fun fI fz fL eg dH=> ?_
 have Z:=gY eg.md
 have a1:=bt.md Z fun _ hk=>hk.elim
 have f0:=Z.size
 have cF:(fun w'=>Md (fun q=>((f<|str A).getD<|bz none 0 0).ownBlock=some q) aF w') fz:=Md.mono Z fun _ _ h=>h.elim
 refine ⟨cF,?_⟩
 refine iQ 15 aa ag<|ap p4 (a1.own A) aa ab aa (aC.fO dH) (aa) (aa) (by have :=CB A xs; omega) (by have :=CB A xs; omega) fun fw de e6 am fs a7=> ?_
 have fs:=am.size
 have a7:=(ca.wk Z).md am cZ
 have fc:bm de M.heap.size 3 1 fw (idxs A xs++ [xs.length]).length ((idxs A xs++ [xs.length]).map gG):=by
  rw [bF,iK,c9]; exact e6
 have ey:(fun w'=>Md (fun q=>((f<|str A).getD<|bz none 0 0).ownBlock=some q) aF w') de:=cF.trans' am fun _ _ h=>h
 refine ⟨ey,?_⟩
 refine cQ 16 aa ag ag<|qd Ex fZ (a7) aa aa aa (⟨_,aa⟩) fun df aK ek=> ?_
 have fd:=kP.put (x:=(A,aN)) a1 am fc (fun cur z=>a7.mX) aK
 have eP:=aK.aB (am.aB (Wk.aB Z bs) cb) fun h=>by omega
 have c1:=bZ (aV c0 Z) am fun q C=>mi (aV c0 Z) (a1.own A) aw C
 have e7:=bZ c1 aK fun q C h=>oJ c1 C fun cur z=>h ▸ a7.mX
 have eY:=((eX.wk Z).md am<|iG (a1.own A) aw).md aK fun k hk cur z h=>a7.mX<|hk ▸ h
 have eD:jD df M.heap.size E Y a9 (vs++ [a4]) (xs++ [(A,aN)]):=⟨eP,e7,by rw [iK]; exact eY,⟨_,ek,fd⟩⟩
 have d3:Wk av df:=((d1.trans Z).trans' am fun q C h=>by have :=(dd (a1.own A) h).1; omega).trans' aK fun q C h=>by omega
 have eI:=aK.B (am.B (Wk.B Z eH) fun h=>by have :=(dd (a1.own A) h).1; omega) fun h=>by omega
 have f8:=aK.size
 exact eh ag<|bn<|bC<|rg aa<|p (ad aa aa<|bR ab)<|p mv<|nl<|tn<|⟨_,ab,i+1,xs++ [(A,aN)],vs++ [a4],a9,ab,(by rw [bF,c9]; rfl),(by rw [show n - (i+1)=n - i - 1 by omega]; exact ah.step ab hex),eD,d3,eI,(ab),aa,aa,aa,(by first | rfl | (rw [← cX]; rfl)),aa,aa,(by first | rfl | (rw [U]; rfl)),(by first | rfl | (rw [U]; rfl)),aa,aa⟩
 refine ext<|bc<|bc<|be<|dl<|az fun bC=>az fun bD=> ?_
 obtain ⟨fH,cv,rfl⟩:=cR aS.own
 refine rg aa<|ao (aU E)<|p (nc aa)<|p (fa tF aa)<|p (ld qJ aa<|(aX aS.cells).trans aa)<|p (bO uA aa aa)<|ao (aj n)<|p (lt aa aa)<|nl<|bD<|cd aa (fun eO=> ?_) fun eO=> ?_
 refine ak fun a3=>ao (.slice da (cJ t).length cj)<|p (bO gP aa aa)<|p (bG (((cJ t).length+1:Nat):Int) aa aa<|bd ab ab)<|e<|cl pA (pE ((cJ t).length+1:Nat) 116 ax) aa fun gt gB el=> ?_
 obtain ⟨rfl,bM⟩:=el
 have f2:=bM.size
 refine p aA<|e<|cw gS aa aa aa aa (Wk.B (O.trans bM) aZ) (by simp) fun gU ed dT=>nl<|a3<|rt<|tr<|eo aa dR (dy (cs:= [.int .i64 2,aj ((cJ t).length+1),.int .i64 116]) aa jm aa fun j an=>dT.bu j) ?_
 rw [kL ab] at ah
 exact jV.no (ah.ends ab)<|(aD.trans<|O.trans bM).trans' ed fun q C h=>by omega
 refine aM<|bC<|ak fun a3=>ao (aU E)<|p (cE (ps:= []) (L:= [.int .i64 0,.int .i64 0,.int .i64 0]) p5 aa<|aa)<|p (bY (aU E) aa)<|e<|cw gS aa aa aa aa (Wk.B O aZ) (by simp) fun gV cA dU=>nl<|a3<|rt<|eo aa dR (dy (cs:= [.int .i64 0,.int .i64 0,.int .i64 0]) aa jm aa fun j an=>dU.bu j) ?_
 rw [kL ab,show n - i=0 by omega] at ah
 have eE:=ah.done
 have eB:TF ax [49] (fun q=>q=bL):=TF.eq (di<|Wk.aB (hE22.trans<|hE31.trans O) cp) aw
 unfold jV
 rw [eE]
 exact ⟨⟨M.heap.size,E,Y,_,vs,ab,aa,aS.md cA eB aw (fun h=>by omega),ab,ab⟩,(aD.trans O).trans' cA fun q C h=>by omega⟩
end Go.Hb.jU
end
section
namespace Go.Hb
open Go.Hb.iW Go.Hb.jU
theorem RR {α:Type} {f:α×Value→List Value} {m c i:Nat} (A:∀ q,(f q).length=m) (C:c < m) (hs:∀ a u v,(f (a,u)).set c v=f (a,v)) {rs:List α} {vs:List Value} {v:Value} (hi:i < rs.length) (J:i < vs.length):((rs.zip vs).flatMap f).set (i*m+c) v=(rs.zip<|vs.set i v).flatMap f:=by
 obtain ⟨r,I⟩:∃ r,rs[i]? =some r:=⟨_,cx hi⟩
 obtain ⟨u,hu⟩:∃ u,vs[i]? =some u:=⟨_,cx J⟩
 have M:(rs.zip vs)[i]? =some (r,u):=iJ.2 ⟨I,hu⟩
 have V:rs.zip (vs.set i v)=(rs.zip vs).set i (r,v):=by
  apply ni
  intro j
  rw [jx]
  by_cases E:i=j
  · subst E
    rw [if_pos rfl,if_pos (eI.1 M).1]
    exact iJ.2 ⟨I,by simp [J]⟩
  · rw [if_neg E]
    cases h1:(rs.zip vs)[j]? with
    | none=>
      rw [F2,vj] at h1 ⊢
      rw [sy]; exact h1
    | some q=>
      have h2:=iJ.1 h1
      exact iJ.2 ⟨h2.1,by rw [jx,if_neg E]; exact h2.2⟩
 have Y:(rs.zip vs).length=min rs.length vs.length:=vj
 have G:((rs.zip vs).flatMap f).length=(rs.zip vs).length*m:=nD A _
 have hle:i*m+m≤(rs.zip vs).length*m:=by rw [← Nat.succ_mul]; exact Nat.mul_le_mul_right _ ab
 rw [V,BX A _ ab]
 apply ni
 intro j
 have O:=fun c C=>xk A (c:=c) M C
 have U:(((rs.zip vs).flatMap f).take<|i*m).length=i*m:=by rw [dT,G]; omega
 rw [jx]
 by_cases h1:j < i*m
 · rw [if_neg ab,dx,lh ab,lT,if_pos h1]
 · rw [dx,lS ab,U]
   by_cases h2:j < i*m+m
   · rw [lh (by rw [A]; omega)]
     obtain ⟨d,rfl⟩:∃ d,j=i*m+d:=⟨j - i*m,ab⟩
     rw [O d ab,show i*m+d - i*m=d by omega,← hs r u v,jx]
     by_cases h3:c=d
     · subst h3; rw [if_pos rfl,if_pos rfl,if_pos (by rw [G]; omega),if_pos (by rw [A]; exact C)]
     · rw [if_neg ab,if_neg h3]
   · rw [if_neg ab,lS (by rw [A]; omega),A,sw]
     congr 1; omega
theorem Lf {xs:List bj} {vs:List Value} {i:Nat} {v:Value} (hi:i < xs.length) (a:i < vs.length):(jH<|xs.zip vs).set (i*2 +1) v=jH (xs.zip<|vs.set i v):=RR (f:=ox) (m:=2) (c:=1) (fun _=>rfl) aw (fun _ _ _=>rfl) hi a
theorem wP {l:List (bj×Value)} {i:Nat} {q:bj×Value} (h:l[i]? =some q):jH l≠[]:=fun h2=>by
 have h3:=KX l
 have h4:=(eI.1 h).1
 rw [h2] at h3
 have h5:0=l.length*2:=h3
 omega
theorem Le {w:World} {B e:Nat} {xs:List bj} {vs:List Value} {i:List (List Nat)} (h:c4 w B e vs i):(jH<|xs.zip vs).all eH=true :=by
 rw [kg]
 intro v a
 obtain ⟨q,c,a⟩:=vk.1 a
 have h1:=kg.1 (vy h) q.2 (Gb c).2
 simp only [ox,eK,sE,or_false] at a
 rcases a with rfl | rfl
 · rfl
 · exact h1
def mF (w:World) (B:Nat) (vs:List Value) (a:List (List Nat)):Prop :=vs.length=a.length∧∀ (i:Nat) v l,vs[i]? =some v→a[i]? =some l→bm w B 51 1 v l.length (l.map aO)
theorem mF.t {w:World} {B:Nat} {vs:List Value} {a:List (List Nat)} (h:mF w B vs a):c4 w B 51 vs a:=⟨h.1,fun i v l h1 h2=>Tg.jP<|h.2 i v l h1 h2⟩
theorem zV {G:Nat→Prop} {w w':World} {B:Nat} {vs:List Value} {a:List (List Nat)} (h:mF w B vs a) (hm:Md G w w') (c:∀ k,G k→∀ cur z,w.heap[k]?≠some (.cells cur 51 z)):mF w' B vs a:=⟨h.1,fun i v l h1 h2=>bZ (h.2 i v l h1 h2) hm fun k hk q=>oJ (h.2 i v l h1 h2) hk<|c k q⟩
theorem GZ (w:World) (B:Nat):mF w B [] []:=⟨rfl,fun i v l a=>by simp at a⟩
theorem GY {w:World} {B i:Nat} {vs:List Value} {a:List (List Nat)} {v:Value} (h:mF w B (vs.take i) (a.take i)) (hi:i < a.length) (C:i < vs.length) (A:bm w B 51 1 v (a.getD i []).length ((a.getD i []).map aO)):mF w B ((vs.set i v).take<|i+1) (a.take<|i+1):=by
 refine ⟨by simp; have :=h.1; simp at this; omega,fun j u l h1 h2=> ?_⟩
 rw [lT] at h1 h2
 by_cases c:j < i+1
 · rw [if_pos c] at h1 h2
   rw [jx] at h1
   by_cases q:i=j
   · subst q
     rw [if_pos rfl,if_pos C] at h1
     cases h1
     rw [show a.getD i []=l by rw [cO,h2]; rfl] at A
     exact A
   · rw [if_neg q] at h1
     exact h.2 j u l (by rw [lT,if_pos ab]; exact h1)<|by rw [lT,if_pos ab]; exact h2
 · rw [if_neg c] at h1; cases h1
theorem Ky (B wb mb:Nat) (va:Value) (vs:List Value) (xs:List bj) (w:World) (G:jD w B wb mb va vs xs) (a4:xs.length≤70000) (aK:∀ x∈xs,x.2.length≤64):
 ba au 47 (aY [aU wb]) w (fun v w'=>(∃ vs,bm w' w.heap.size 72 2 v xs.length (jH<|xs.zip vs)∧c4 w' w.heap.size 51 vs (xs.map (·.2))∧mF w' w.heap.size vs (xs.map (·.2)))∧Wk w w'):=by
 refine enter func47 aa ntmps47 aa<|ak fun am=>ay<|am<|az fun ap=>ak fun aq=>ao (aU wb)<|p (kY EB aa aa)<|nl<|aq<|cf (aa)<|aM<|ap<|az fun ar=>rg aa<|ao (aU wb)<|p (nc aa)<|p (fa tF aa)<|p (ld qJ aa<|(aX G.cells).trans aa)<|e<|cl IP (Jf va xs.length (jH<|xs.zip vs) w (Rd.jP G.own) (Le G.fl) ab) aa fun v11 a8 aG=> ?_
 obtain ⟨ah,aE⟩:=aG
 obtain ⟨A,C,rfl⟩:=cR ah
 have aZ:vs.length=xs.length:=by have :=G.fl.1; rwa [eJ] at this
 refine ay<|ar<|az fun av=>ak fun ax=>p mv<|p (bO uA aa aa)<|p mv<|nl<|ax<|aB<|lp (fun ag M E=> ∃ (i:Nat) (sa:List Value),(i≤xs.length)∧(sa.length=xs.length)∧(sa.drop i=vs.drop i)∧(mF E w.heap.size (sa.take i)<|(xs.map (·.2)).take i)∧(bm E w.heap.size 72 2 (.slice A xs.length C) xs.length<|jH<|xs.zip sa)∧(Wk w E)∧(M 3= .slice A xs.length C)∧(M 13=aj (xs.length))∧(M 14=aj i)∧(xs.length - i=ag)) _ ⟨0,vs,ab,aZ,aa,(GZ _ _),ah,aE,aa,aa,aa,aa⟩ ?_
 rintro ag M E ⟨i,sa,hi,aS,al,J,c,I,aR,aP,aQ,rfl⟩
 refine fx 3 aR<|fx 13 aP<|fx 14 aQ<|ak fun aA=>p (lt aa aa)<|nl<|aA<|az fun aD=>cd aa (fun aJ=> ?_) fun aJ=> ?_
 refine aM<|aD<|az fun O=>aB<|az fun an=> ?_
 obtain ⟨a7,a0,V⟩:=c4.get (G.wk I).fl (show i < (xs.map (·.2)).length by rw [eJ]; omega)
 obtain ⟨ae,ci,rfl⟩:=V.slice
 obtain ⟨x,ac⟩:∃ x,xs[i]? =some x:=⟨_,cx ab⟩
 have a2:(xs.map (·.2)).getD i []=x.2:=by rw [cO,fU,ac]; rfl
 have a1:=aK x<|iL ac
 rw [← a2] at a1
 have Z:(xs.zip sa)[i]? =some (x,.slice ae ((xs.map (·.2)).getD i []).length ci):=iJ.2 ⟨ac,(wz al).trans a0⟩
 refine rg aa<|ao (aj i)<|p (bY (aj i) aa)<|nl<|an<|rg aa<|ao (.slice A xs.length C)<|ao (aj i)<|ao (.slice A xs.length C)<|ao (aj i)<|p (aW wV aa aa ab<|aC.ok ((aT c).2)<|wP Z)<|p (fa oB aa)<|p (ld kR aa<|gK (f:=ox) (m:=2) (fun _=>rfl) (aT c).2 Z 1 aw)<|e<|cl ou (pB ae ((xs.map (·.2)).getD i []).length ci (((xs.map (·.2)).getD i []).map aO) E V.c6.2 (by simp) (fun h=>Tg.pW V (by simp) h) (pj _) ab) aa fun v24 a9 aH=> ?_
 obtain ⟨Y,a⟩:=aH
 have a5:=a.size
 refine p (aW wV aa aa ab<|aC.ok ((aT<|aV c a).2)<|wP Z)<|p (fa oB aa)<|e<|p6 (j:=i*2 +1) (aV c a) pD aa aa (eb Y) (by rw [ji]; omega) ab fun a3 U ai=> ?_
 rw [Lf ab ab] at ai
 have aF:Wk w a3:=Wk.own (I.trans a) (aV c a) U ab
 have aL:=bZ (eD Y (show w.heap.size≤E.heap.size from I.size)) U fun q aN=>mi Y (aV c a) aw aN
 have aI:=zV (zV J a fun _ hk=>hk.elim) U<|iG (aV c a) aw
 exact nl<|bn<|O<|rg aa<|p (ad aa aa<|bR ab)<|p mv<|nl<|tn<|⟨_,ab,i+1,sa.set i v24,ab,(by rw [sy]; exact aS),(iW.set_drop al),(GY aI (by rw [eJ]; omega) ab aL),ai,aF,aa,aa,aa,aa⟩
 refine ext<|bc<|bc<|be<|av<|ak fun O=>ao (.slice A xs.length C)<|p (bY (.slice A xs.length C) aa)<|nl<|O<|rt<|a6 aa ?_
 rw [eL ab,eL (by rw [eJ]; omega)] at J
 exact ⟨⟨sa,c,J.t,J⟩,I⟩
end Go.Hb
end
section
namespace Go.Hb
structure GA where
 rb:Nat
 fb:Nat
 eof:Nat
 vr:Value
 vs:List (Nat×Value)
 rows:List Rw
section
variable {w w':World} {B k ln:Nat} {H:GA} {seen:List Tx} {vh:Value}
end
end Go.Hb
end
section
namespace Go.Hb.ki
open Go.Hb.jj
def Ny (F:aE):Prop := ∀ l∈F.aliases,∀ x∈l,x < 65536
theorem Ci {kind:Nat} {s:Tx} {l:List Nat} (h:jJ kind s= .ok l):∀ x∈l,x < 65536:=by
 unfold jJ at h
 split at h
 · cases h
 · cases h
   intro x a
   unfold ee at a
   repeat' split at a
   all_goals first
    | (cases a; done)
    | (rw [yc] at a
       obtain ⟨y,_,rfl⟩:=List.mem_map.1 a
       exact LP _ _)
theorem GS {kind ln:Nat} {row:List Tx} {l:List Nat} (h:kS kind ln row= .ok l):∀ x∈l,x < 65536:=by
 unfold kS at h
 split at h
 · cases h
 · exact Ci h
theorem LX {kind:Nat} {al:List (List Nat)} {s:Tx} {l:List Nat} (a:∀ l∈al,∀ x∈l,x < 65536) (h:e9 kind al s= .ok l):∀ x∈l,x < 65536:=by
 unfold e9 at h
 split at h
 · exact Ci h
 · split at h
   · cases h
   · split at h
     · cases h
     · cases h
       rename_i n _ _
       rw [cO]
       cases hg:al[n - 1]? with
       | none=>simp
       | some y=>exact a y<|iL hg
theorem MO {eof ln:Nat} {F F':aE} {hs:List Tx} {rows rows':List Rw} {row:List Tx} (h:Ny F) (a:bN eof F hs rows ln row= .ok (F',rows')):Ny F':=by
 unfold bN at a
 repeat' split at a
 · unfold je at a; repeat' split at a
   all_goals first | (cases a; done) | (cases a; exact h)
 · unfold jM at a; repeat' split at a
   all_goals first | (cases a; done) | (cases a; exact h)
 · unfold lI at a; repeat' split at a
   all_goals first | (cases a; done) | (cases a; exact h)
 · unfold lK at a; repeat' split at a
   all_goals first | (cases a; done) | (cases a; exact h)
 · unfold jN at a; repeat' split at a
   all_goals first | (cases a; done) | (cases a; exact h)
 · unfold jQ at a; repeat' split at a
   all_goals first | (cases a; done) | (cases a; exact h)
 · unfold jn at a
   split at a
   · cases a
   · split at a
     · cases a
     · split at a
       · cases a
       · rename_i r i
         cases a
         intro l c
         rcases List.mem_append.1 c with c | c
         · exact h l c
         · obtain ⟨_,_,h2⟩:=xG _ _ _ i l c
           exact GS h2
 · unfold gp at a; repeat' split at a
   all_goals first | (cases a; done) | (cases a; exact h)
theorem Pq {eof:Nat} :∀ (k:Nat) (F F':aE) (hs:List Tx) (rows:List Rw),Ny F→fP eof k F hs rows= .ok F'→Ny F':=by
 intro k
 induction k with
 | zero=>intro F F' hs rows h a; rw [fP] at a; split at a <;> cases a; exact h
 | succ k i=>
   intro F F' hs rows h a
   cases rows with
   | nil=>rw [DM] at a; cases a; exact h
   | cons q rows=>
     rw [fP] at a
     split at a
     · cases a
     · split at a
       · cases a
       · split at a
         · cases a
         · split at a
           · cases a
           · rename_i r c
             exact i _ _ _ _ (MO (rows':=r.2) h c) a
theorem zL {s:Tx} {F:aE} (h:e7 s= .ok F):Ny F:=by
 unfold e7 at h
 split at h
 · cases h
 · split at h
   · cases h
   · rename_i f a
     split at h
     · cases h
     · cases h
       exact Pq _ _ _ _ _ (fun l c=>by cases c) a
def sK (x:bj):Prop :=x.1.length≤64∧x.2.length≤64∧(∀ y∈x.2,y < 65536)
theorem wO {F:aE} {row:List Tx} {x:bj} (h1:Nx F) (h2:Ny F) (h:e8 F row= .ok x):sK x:=by
 unfold e8 at h
 split at h
 · cases h
 · split at h
   · cases h
   · split at h
     · cases h
     · split at h
       · cases h
       · split at h
         · cases h; exact ⟨by simp only; omega,by simp,fun y c=>by cases c⟩
         · split at h
           · cases h
           · rename_i a
             split at h
             · cases h
               exact ⟨by simp only; omega,xj h1.1 a,LX h2 a⟩
             · cases h
theorem Lh {F:aE} {eof:Nat} (h1:Nx F) (h2:Ny F):∀ {n:Nat} {rows:List Rw} {r:List bj},dY F eof n rows= .ok r→∀ x∈r,sK x:=by
 intro n
 induction n with
 | zero=>
   intro rows r h
   cases rows with
   | nil=>rw [dY] at h; cases h; intro x a; cases a
   | cons q rows=>rw [dY] at h; cases h
 | succ n i=>
   intro rows r h
   cases rows with
   | nil=>rw [dY] at h; cases h
   | cons q rows=>
     rw [dY] at h
     split at h
     · cases h
     · rename_i he
       split at h
       · cases h
       · rename_i c
         cases h
         intro x a
         rcases eK.1 a with rfl | a
         · exact wO h1 h2 he
         · exact i c x a
theorem Bl {F:aE} {t:Tx} {xs:List bj} (h1:Nx F) (h2:Ny F) (h:eQ F t= .ok xs):(∀ x∈xs,sK x)∧xs.length≤8192:=by
 unfold eQ at h
 split at h
 · cases h
 · split at h
   · cases h
   · split at h
     · cases h
     · split at h
       · cases h
       · rename_i hn
         refine ⟨Lh h1 h2 h,?_⟩
         have c:=(Lj h).1
         unfold dQ at hn
         split at hn
         · cases hn
         · cases hn
           rename_i a
           have :=tQ _ 8192<|lf.1 a
           omega
end Go.Hb.ki
end
section
namespace Go.Hb
open Go.Hb.jj Go.Hb.iW Go.Hb.jU Go.Hb.ki
noncomputable def k8 (a t:Tx):Option (aE×List bj):=match e7 a with
 | .error _=>none
 | .ok F=>match eQ F t with
   | .error _=>none
   | .ok xs=>some (F,xs)
theorem QL {a t:Tx} {e:Nat×Nat} (h:e7 a= .error e):k8 a t=none:=by unfold k8; rw [h]
theorem QM {a t:Tx} {F:aE} {e:Nat×Nat} (h:e7 a= .ok F) (h1:eQ F t= .error e):k8 a t=none:=by unfold k8; rw [h]; simp only; rw [h1]
theorem Ej {a t:Tx} {F:aE} {xs:List bj} (h:e7 a= .ok F) (h1:eQ F t= .ok xs):k8 a t=some (F,xs):=by unfold k8; rw [h]; simp only; rw [h1]
structure eW (F:aE) (xs:List bj):Prop where
 len:F.cT.length+F.aliases.length+F.bo.length+F.rules.length≤70000
 nx:Nx F
 tu:∀ x∈xs,sK x
 xl:xs.length≤8192
 fs:o6 F
 cls:mI F
 KR:∀ x∈xs,jl x.2
 iS:F.sp.length=5
 ne:∀ x∈xs,1≤x.1.length
theorem vt {s:Tx} {F:aE} (h:e7 s= .ok F):Nx F:=zK (Q:=Nx) ⟨fun l a=>(by cases a),fun l a=>by cases a⟩ (fun _ _ _ _ _ _ _ _ h c=>xK h c) h
theorem eW.of {a t:Tx} {F:aE} {xs:List bj} (h:e7 a= .ok F) (h1:eQ F t= .ok xs) (c:∃ seen,iV F [] seen) (h5:F.sp.length=5):eW F xs:=by
 obtain ⟨seen,c⟩:=c
 have q:=c.len
 have i:=Bl (vt h) (zL h) h1
 exact ⟨by simpa using q,vt h,i.1,i.2,(vq h).1,(vq h).2,KI (vq h).1 h1,h5,KM h1⟩
theorem eW.j8 {F:aE} {xs:List bj} (h:eW F xs) {i:Nat} {r:cW} (a:F.rules[i]? =some r):r.next.length≤64∧jl r.next∧sM r:=⟨h.nx.2 r (iL a),h.fs.2 r<|iL a⟩
structure fK where
 fb:Nat
 mc:Nat
 wb:Nat
 mb:Nat
 V:dG
 V2:dG
 va:Value
 ve:Value
 vs:List Value
 ws:List Value
def QS (F:aE) (a:fK):List Value:= .pointer (some ⟨a.fb,0,none⟩):: .pointer (some ⟨a.wb,0,none⟩)::(jG F a.V2++ [a.ve])
structure eB (w:World) (B tb:Nat) (U:fK) (F:aE) (xs:List bj):Prop where
 cells:w.heap[tb]? =some (.cells (QS F U).toArray 64 (0,0))
 fl:cD w B U.fb U.mc F U.V
 ax:mG w B F U.V2
 wd:jD w B U.wb U.mb U.va U.vs xs
 oe:bm w B 72 2 U.ve xs.length (jH<|xs.zip U.ws)
 ef:c4 w B 51 U.ws (xs.map (·.2))
theorem vC {G:Nat→Prop} {w w':World} {B:Nat} {F:aE} {V:dG} (h:mG w B F V) (hm:Md G w w') {L:List Nat} (a:TF w L G) (c:(L.contains 130 || L.contains 72 || L.contains 53 || L.contains 133 || L.contains 79)=false):mG w' B F V:=by
 simp only [nW] at c
 obtain ⟨⟨⟨⟨h1,h2⟩,h3⟩,h4⟩,h5⟩:=c
 have i:∀ k,G k→∀ cur z,w.heap[k]?≠some (.cells cur 51 z):=fun k hk cur z q=>a.no (di q) h3 hk
 exact ⟨cM h.o9 hm a h1,cM h.fN hm a h2,h.al.md hm i,cM h.ff hm a h4,cM h.dN hm a h5,h.nx.md hm i⟩
theorem eB.rC {G:Nat→Prop} {w w':World} {B tb:Nat} {c:fK} {F:aE} {xs:List bj} (h:eB w B tb c F xs) (hm:Md G w w') {L:List Nat} (a:TF w L G) (i:(L.contains 127 || L.contains 130 || L.contains 72 || L.contains 53 || L.contains 133 || L.contains 79 || L.contains 188 || L.contains 74 || L.contains 5 || L.contains 66)=false) (E:¬G c.mc) (C:¬G c.mb):eB w' B tb c F xs:=by
 simp only [nW] at i
 obtain ⟨⟨⟨⟨⟨⟨⟨⟨⟨h1,h2⟩,h3⟩,h4⟩,h5⟩,h6⟩,h7⟩,h8⟩,h9⟩,h10⟩:=i
 have q:∀ k,G k→∀ cur z,w.heap[k]?≠some (.cells cur 51 z):=fun k hk cur z A=>a.no (di A) h4 hk
 exact ⟨hm.iY a h.cells h10,h.fl.md hm a (by rw [h1,h2,h3,h4,h5,h6]; rfl) E,vC h.ax hm a (by rw [h2,h3,h4,h5,h6]; rfl),h.wd.md hm a (by rw [h7,h8,h4,h9]; rfl) C,cM h.oe hm a h8,h.ef.md hm q⟩
theorem eB.wk {w w':World} {B tb:Nat} {a:fK} {F:aE} {xs:List bj} (h:eB w B tb a F xs) (hm:Wk w w'):eB w' B tb a F xs:=h.rC (L:= []) hm (fun _ hk=>hk.elim) rfl id id
theorem Hi {w w':World} {B:Nat} {F:aE} {V:dG} (h:mG w B F V) (hm:Wk w w'):mG w' B F V:=vC (L:= []) h hm (fun _ hk=>hk.elim) rfl
theorem Hg {w:World} {B B':Nat} {F:aE} {V:dG} (h:mG w B F V) (a:B'≤B):mG w B' F V:=⟨eD h.o9 a,eD h.fN a,h.al.mono a,eD h.ff a,eD h.dN a,h.nx.mono a⟩
theorem Pk {s:Tx} {w w':World} {v:Value} (h:mJ s w v w'):∃ p i q A,v= .tuple #[.pointer p,.agg [.int .i64 i,.int .i64 q,.int .i64 A].toArray]∧((p=none∧∃ e,e7 s= .error e)∨(∃ F fb mc V,p=some ⟨fb,0,none⟩∧e7 s= .ok F∧cD w' w.heap.size fb mc F V∧(∃ seen,iV F [] seen)∧Nx F))∧Wk w w':=by
 obtain ⟨h,a⟩:=h
 cases hx:e7 s with
 | error e=>rw [hx] at h; exact ⟨_,_,_,_,h,.inl ⟨rfl,e,rfl⟩,a⟩
 | ok F=>rw [hx] at h; obtain ⟨fb,mc,V,c,h1,h2,h3⟩:=h; exact ⟨_,_,_,_,c,.inr ⟨F,fb,mc,V,rfl,rfl,h1,h2,h3⟩,a⟩
theorem KP {F:aE} {s:Tx} {w w':World} {v:Value} (h:jV F s w v w'):∃ p i q A,v= .tuple #[.pointer p,.agg [.int .i64 i,.int .i64 q,.int .i64 A].toArray]∧((p=none∧∃ e,eQ F s= .error e)∨(∃ xs B wb mb va vs,p=some ⟨wb,0,none⟩∧eQ F s= .ok xs∧w.heap.size≤B∧jD w' B wb mb va vs xs∧w.heap.size≤wb∧w.heap.size≤mb))∧Wk w w':=by
 obtain ⟨h,a⟩:=h
 cases hx:eQ F s with
 | error e=>rw [hx] at h; exact ⟨_,_,_,_,h,.inl ⟨rfl,e,rfl⟩,a⟩
 | ok xs=>rw [hx] at h; obtain ⟨B,wb,mb,va,vs,h1,c,h2,h3,h4⟩:=h; exact ⟨_,_,_,_,c,.inr ⟨xs,B,wb,mb,va,vs,rfl,rfl,h1,h2,h3,h4⟩,a⟩
def qF (a t:Tx) (w:World) (v:Value) (w':World):Prop :=(∃ p i q A,v= .tuple #[.pointer p,.agg [.int .i64 i,.int .i64 q,.int .i64 A].toArray]∧match k8 a t with
 | none=>p=none
 | some T=> ∃ B tb c,w.heap.size≤B∧p=some ⟨tb,0,none⟩∧eB w' B tb c T.1 T.2∧eW T.1 T.2)∧Wk w w'
theorem qF.no {a t:Tx} {w w':World} {c i q:Int} (h:k8 a t=none) (hm:Wk w w'):qF a t w (.tuple #[.pointer none,.agg [.int .i64 c,.int .i64 i,.int .i64 q].toArray]) w':=⟨⟨none,c,i,q,rfl,by rw [h]⟩,hm⟩
theorem Rs {w:World} {B B':Nat} {f:Value→Option Value} {xs:List bj} (h:kP w B f xs) (a:B'≤B):kP w B' f xs:=⟨fun s=>eD (h.own s) a,h.nil⟩
theorem KQ {w:World} {B B' wb mb:Nat} {va:Value} {vs:List Value} {xs:List bj} (h:jD w B wb mb va vs xs) (a:B'≤B):jD w B' wb mb va vs xs:=by
 obtain ⟨f,c,i⟩:=h.mp
 exact ⟨h.cells,eD h.own a,h.fl.mono a,f,c,Rs i a⟩
theorem yL (a t:Tx) (w:World) (bQ:a.length≤1048576) (b2:t.length≤1048576):
 ba au 19 (aY [str a,str t]) w (qF a t w):=by
 refine enter func19 aa ntmps19 aa<|ak fun bm=>p aA<|e<|gR mu fun i ad ca al ae=> ?_
 have co:=al.size
 refine nl<|bm<|ak fun bo=>ao (str a)<|e<|cl Iy (GK a ad bQ) aa fun v12 bk bI=> ?_
 have bV:=Pk bI
 obtain ⟨pp,bc,bd,bf,rfl,bb,aG⟩:=bV
 have cg:=aG.size
 refine p mv<|p (xt aa aa)<|p (xt aa aa)<|e<|gR mu fun aQ cv cc a3 bB=> ?_
 have cp:=a3.size
 refine p aA<|e<|ga gS aa aa aa aa bB aw fun M aW aD=> ?_
 have aF:Wk bk M:=a3.md.trans' aW fun q C h=>by omega
 have aT:=aG.trans aF
 have cf:=aW.size
 have b0:bA M.heap aQ [.int .i64 bc,.int .i64 bd,.int .i64 bf]:=⟨_,aD⟩
 refine nl<|bo<|az fun bq=>ak fun br=>p mv<|p (kY r4 aa aa)<|nl<|br<|cb aa (fun ap=> ?_) fun ap=> ?_
 obtain ⟨rfl,e,A⟩:pp=none∧∃ e,e7 a= .error e:=by rcases bb with h | ⟨_,_,_,_,rfl,_⟩ <;> first | exact h | cases ap
 refine az fun av=> ?_
 have am:(fun w'=>Md (fun q=>q=i) M w') M.drew:=(Md.refl _ _).drew
 refine bK (fun w'=>Md (fun q=>q=i) M w') aa wide am<|aI 0 aa (fun w' G=>cI jm aa (aa) fun j J=>(Md.B G b0 fun h=>by omega).bu j) am<|aI 1 aa (fun _ _=>aA) am<|he 2 aa ag<|ga gS aa aa aa aa (Wk.aB aT ae) aw fun b4 bG bw=> ?_
 have a4:(fun w'=>Md (fun q=>q=i) M w') b4:=am.trans' bG fun q C h=>h
 refine ⟨a4,?_⟩
 exact hn ag<|av<|rt<|tr<|eo aa dR (dy (cs:= [.int .i64 bc,.int .i64 bd,.int .i64 bf]) aa jm aa fun j J=>(aX bw).trans<|by match j,J with | 0,_=>rfl | 1,_=>rfl | 2,_=>rfl)<|qF.no (QL A)<|(al.md.trans aT).trans' a4 fun q C h=>by omega
 obtain ⟨F,fb,mc,V,rfl,A,ai,aS,a2⟩:=bb.resolve_left fun h=>by rw [h.1] at ap; cases ap
 refine aM<|bq<|ak fun av=>p mv<|ao (str t)<|e<|cl Iz (KO ad.heap.size fb mc F V t M (ai.wk aF) aS a2 b2) aa fun v21 cu bJ=> ?_
 have bW:=KP bJ
 obtain ⟨b3,bg,bh,bi,rfl,a9,ah⟩:=bW
 have ch:=ah.size
 refine p mv<|p (xt aa aa)<|p (xt aa aa)<|p aA<|e<|ga gS aa aa aa aa (Wk.aB ah aD) (by simp) fun E aL bx=> ?_
 have aV:Wk bk E:=(aF.trans ah).trans' aL fun q C h=>by omega
 have Y:=aG.trans aV
 have ck:=aL.size
 have b1:bA E.heap aQ [.int .i64 bg,.int .i64 bh,.int .i64 bi]:=⟨_,bx⟩
 refine nl<|av<|az fun bs=>ak fun bt=>p mv<|p (kY EB aa aa)<|nl<|bt<|cb aa (fun aq=> ?_) fun aq=> ?_
 obtain ⟨rfl,e,hd⟩:b3=none∧∃ e,eQ F t= .error e:=by rcases a9 with h | ⟨_,_,_,_,_,_,rfl,_⟩ <;> first | exact h | cases aq
 refine az fun ax=> ?_
 have an:(fun w'=>Md (fun q=>q=i) E w') E.drew:=(Md.refl _ _).drew
 refine bK (fun w'=>Md (fun q=>q=i) E w') aa wide an<|aI 0 aa (fun w' G=>cI jm aa (aa) fun j J=>(Md.B G b1 fun h=>by omega).bu j) an<|aI 1 aa (fun _ _=>aA) an<|he 2 aa ag<|ga gS aa aa aa aa (Wk.aB Y ae) aw fun b5 bH bz=> ?_
 have a5:(fun w'=>Md (fun q=>q=i) E w') b5:=an.trans' bH fun q C h=>h
 refine ⟨a5,?_⟩
 exact hn ag<|ax<|rt<|tr<|eo aa dR (dy (cs:= [.int .i64 bg,.int .i64 bh,.int .i64 bi]) aa jm aa fun j J=>(aX bz).trans<|by match j,J with | 0,_=>rfl | 1,_=>rfl | 2,_=>rfl)<|qF.no (QM A hd)<|(al.md.trans Y).trans' a5 fun q C h=>by omega
 obtain ⟨xs,B,wb,mb,va,vs,rfl,hd,b8,bP,ce,cd⟩:=a9.resolve_left fun h=>by rw [h.1] at aq; cases aq
 have aO:=bP.md (L:= [49]) aL (TF.eq (di<|Wk.aB ah aD) aw) aw fun h=>by omega
 have aK:=ai.wk aV
 have bS:=Bl (vt A) (zL A) hd
 obtain ⟨seen,aR⟩:=aS
 have bT:=aR.len
 refine aM<|bs<|ak fun ax=>p mv<|p mv<|p (cE (ps:= [(0,aU fb),(1,aU wb)]) (L:= [aU fb,aU wb,.int .i64 0,.string ⟨⟨[]⟩⟩,.string ⟨⟨[]⟩⟩,.int .u16 0,.int .u16 0,.int .u16 0,.int .u16 0,.int .u16 0,.int .i64 0,.slice none 0 0,.slice none 0 0,.slice none 0 0,.slice none 0 0,.slice none 0 0]) Qx aa<|aa)<|e<|qO aa fun aC O b9 aj aE=> ?_
 have ci:=aj.size
 refine ay<|ax<|az fun bv=> ?_
 have c:(fun w'=>Wk O w') O.drew:=(Md.refl _ _).drew
 refine ei (fun w'=>Wk O w') 14 aa wide c<|bp 0 aa (fun _=>mv) (fun _=>c)<|bp 1 aa (fun _=>mv) (fun _=>c)<|bp 2 aa (fun _=>mv) (fun _=>c)<|bp 3 aa (fun _=>nc aa) (fun _=>c)<|bp 4 aa (fun _=>fa rm aa) (fun _=>c)<|dM 5 aa (fun w' G=>ld ed aa<|Wk.aH G<|(aX aE).trans aa) c<|bp 7 aa (fun _=>mv) (fun _=>c)<|bp 8 aa (fun _=>nc aa) (fun _=>c)<|bp 9 aa (fun _=>fa Me aa) (fun _=>c)<|dM 10 aa (fun w' G=>ld GP aa<|Wk.aH G<|(aX aE).trans aa) c<|iQ 6 aa ag<|cl qR (qG ad.heap.size fb mc F V O.drew ((aK.wk aj.md).wk c) (by simp only [gj] at bT; omega) a2) aa fun v37 bl bL=> ?_
 obtain ⟨⟨V2,rfl,bR⟩,hE37⟩:=bL
 have cj:=hE37.size
 have ct:=c.size
 have a6:(fun w'=>Wk O w') bl:=c.trans hE37
 refine ⟨a6,?_⟩
 refine iQ 11 aa ag<|cl IA (Ky B wb mb va vs xs bl (((aO.wk aj.md).wk c).wk hE37) ab fun x A=>(bS.1 x A).2.1) aa fun bj ar bM=> ?_
 obtain ⟨⟨ws,a8,bU,_⟩,hE42⟩:=bM
 have cn:=hE42.size
 have ac:=Hi bR hE42
 have a7:=Wk.aB hE42<|Wk.aB hE37<|Wk.aB c aE
 have aN:(fun w'=>Wk O w') ar:=a6.trans hE42
 refine ⟨aN,?_⟩
 refine bp 12 aa (fun _=>nc aa) (fun _=>aN)<|bp 13 aa (fun _=>fa rp aa) (fun _=>aN)<|cQ 14 aa ag ag<|ga wq aa aa aa (vB (eb ac.o9) (eb ac.fN) (eb ac.ff)<|eb ac.dN) a7 (by simp) fun cw a0 bD=> ?_
 have cr:=a0.size
 refine bp 15 aa (fun _=>nc aa) (fun h=>c8<|(show true =_ from by kernel_rfl).trans h)<|bp 16 aa (fun _=>fa xz aa) (fun h=>c8<|(show true =_ from by kernel_rfl).trans h)<|cQ 17 aa ag ag<|dA Be aa aa (v:=bj) (eb a8) bD (by show 15 < 16; omega) fun aP aZ bC=> ?_
 have cq:=aZ.size
 have U:=a0.trans' aZ fun q C h=>h
 have I:TF ar [66] (fun q=>q=aC):=TF.eq (di a7) aw
 have bF:Wk O ar:=c.trans<|hE37.trans hE42
 have Z:Wk E ar:=aj.md.trans bF
 have aJ:Wk E aP:=Z.trans' U fun q C h=>by omega
 obtain ⟨b6,bX,_⟩:=(aK.wk Z).cm
 obtain ⟨b7,bY,_⟩:=(aO.wk Z).mp
 have bN:eB aP ad.heap.size aC ⟨fb,mc,wb,mb,V,V2,va,bj,vs,ws⟩ F xs:=⟨bC,(aK.wk Z).md U I aw (I.no (dj bX) aw),vC (Hg ac ab) U I aw,KQ ((aO.wk Z).md U I aw<|I.no (dj bY) aw) ab,eD (cM a8 U I aw) ab,(bU.md U fun k hk cur z bZ=>I.no (di bZ) aw hk).mono ab⟩
 refine eh ag<|bv<|ak fun bn=>p mv<|p (cE (ps:= []) (L:= [.int .i64 0,.int .i64 0,.int .i64 0]) p5 aa<|aa)<|p aA<|e<|ga gS aa aa aa aa (Wk.aB (Y.trans aJ) ae) aw fun cx a1 bE=>nl ?_
 refine bn<|rt<|eo aa dR (dy (cs:= [.int .i64 0,.int .i64 0,.int .i64 0]) aa jm aa fun j J=>(aX bE).trans<|by match j,J with | 0,_=>rfl | 1,_=>rfl | 2,_=>rfl) ?_
 refine ⟨⟨_,_,_,_,aa,?_⟩,(al.md.trans<|Y.trans aJ).trans' a1 fun q C h=>by omega⟩
 rw [Ej A hd]
 have bO:TF aP [49] (fun q=>q=i):=TF.eq (di<|Wk.aB (Y.trans aJ) ae) aw
 exact ⟨ad.heap.size,aC,_,ab,aa,bN.rC a1 bO aw (fun h:mc=i=>by have :=ai.lo.2; omega) (fun h:mb=i=>by omega),eW.of A hd ⟨seen,aR⟩ ai.iS⟩
end Go.Hb
end
section
namespace Go.Hb
open Go.Hb.jj Go.Hb.iW Go.Hb.jU Go.Hb.ki
def gI (xs:List bj) (n:Int):Tx:=if 0≤n∧n < xs.length then (xs.getD n.toNat ([],[])).1 else []
def oL (F:aE) (n:Int):cW:=if 0≤n∧n < F.rules.length then F.rules.getD n.toNat dv else dv
theorem pk {xs:List bj} {k:Nat} {x:bj} (h:xs[k]? =some x):gI xs k=x.1∧flagsOf xs k=x.2∧k < xs.length∧xs.getD k ([],[])=x:=by
 have hk:=(eI.1 h).1
 have hd:xs.getD k ([],[])=x:=by rw [cO,h]; rfl
 refine ⟨?_,?_,hk,hd⟩
 · unfold gI; rw [if_pos ab,ji,hd]
 · unfold flagsOf; rw [if_pos ab,ji,hd]
theorem sW {xs:List bj} {n:Int} (h:¬(0≤n∧n < xs.length)):gI xs n= []∧flagsOf xs n= []:=by
 unfold gI flagsOf; rw [if_neg h,if_neg h]; exact ⟨rfl,rfl⟩
theorem DS {F:aE} {k:Nat} {r:cW} (h:F.rules[k]? =some r):oL F k=r∧cy F k=r.next∧k < F.rules.length∧F.rules.getD k dv=r:=by
 have hk:=(eI.1 h).1
 have hd:F.rules.getD k dv=r:=by rw [cO,h]; rfl
 refine ⟨?_,?_,hk,hd⟩
 · unfold oL; rw [if_pos ab,ji,hd]
 · unfold cy; rw [if_pos ab,ji,hd]
theorem yx {F:aE} {n:Int} (h:¬(0≤n∧n < F.rules.length)):oL F n=dv∧cy F n= []:=by
 unfold oL cy; rw [if_neg h,if_neg h]; exact ⟨rfl,rfl⟩
theorem QT {w:World} {B tb:Nat} {q:fK} {F:aE} {xs:List bj} (h:eB w B tb q F xs) {k:Nat} {x:bj} (E:xs[k]? =some x):∃ i ce a c,q.ve= .slice i xs.length ce∧Hb.aH w.heap tb 15=some (.slice i xs.length ce)∧aC w.heap i (jH<|xs.zip q.ws)∧(xs.zip q.ws)[k]? =some (x,.slice a x.2.length c)∧Tg w B 51 x.2.length (.slice a x.2.length c) (x.2.map aO):=by
 obtain ⟨i,ce,C⟩:=cR h.oe
 have G:=h.oe
 rw [C] at G
 have hk:=(eI.1 E).1
 obtain ⟨v,I,A⟩:=c4.get h.ef (show k < (xs.map (·.2)).length by rw [eJ]; exact hk)
 have J:(xs.map (·.2)).getD k []=x.2:=by rw [cO,fU,E]; rfl
 rw [J] at A
 obtain ⟨a,c,rfl⟩:=A.slice
 exact ⟨i,ce,a,c,C,by rw [← C]; exact (aX h.cells).trans aa,(aT G).2,iJ.2 ⟨E,I⟩,A⟩
theorem QU {w:World} {B tb:Nat} {c:fK} {F:aE} {xs:List bj} (h:eB w B tb c F xs):∃ a ce,Hb.aH w.heap tb 15=some (.slice a xs.length ce):=by
 obtain ⟨a,ce,i⟩:=cR h.oe
 exact ⟨a,ce,by rw [← i]; exact (aX h.cells).trans aa⟩
theorem QV {w:World} {B tb:Nat} {a:fK} {F:aE} {xs:List bj} (h:eB w B tb a F xs):∃ ar cr,Hb.aH w.heap tb 14=some (.slice ar F.rules.length cr):=by
 obtain ⟨ar,cr,c⟩:=cR h.ax.dN
 exact ⟨ar,cr,by rw [← c]; exact (aX h.cells).trans aa⟩
theorem Hh {w:World} {B:Nat} {F:aE} {V:dG} (h:mG w B F V) {k:Nat} {r:cW} (q:F.rules[k]? =some r):∃ ar cr a c,V.v12= .slice ar F.rules.length cr∧aC w.heap ar (fy<|F.rules.zip V.rn)∧(F.rules.zip V.rn)[k]? =some (r,.slice a r.next.length c)∧Tg w B 51 r.next.length (.slice a r.next.length c) (r.next.map aO):=by
 obtain ⟨ar,cr,C⟩:=cR h.dN
 have A:=h.dN
 rw [C] at A
 have hk:=(eI.1 q).1
 obtain ⟨v,E,i⟩:=c4.get h.nx (show k < (F.rules.map (·.next)).length by rw [eJ]; exact hk)
 have G:(F.rules.map (·.next)).getD k []=r.next:=by rw [cO,fU,q]; rfl
 rw [G] at i
 obtain ⟨a,c,rfl⟩:=i.slice
 exact ⟨ar,cr,a,c,C,(aT A).2,iJ.2 ⟨q,E⟩,i⟩
end Go.Hb
end
namespace Go.Hb
def Pt:Go.Shelf.Ren:=⟨fun n=>if n=125 then 111 else if n=128 then 168 else if n=129 then 169 else if n=189 then 71 else if n=215 then 231 else if n=216 then 165 else if n=257 then 110 else if n=294 then 159 else if n=295 then 160 else if n=296 then 161 else if n=297 then 162 else if n=298 then 163 else if n=299 then 164 else if n=300 then 166 else if n=301 then 167 else if n=328 then 226 else if n=329 then 227 else if n=330 then 228 else if n=331 then 229 else if n=332 then 230 else if n=343 then 257 else 0,fun n=>if n=0 then 0 else if n=3 then 3 else if n=4 then 4 else if n=5 then 5 else if n=9 then 9 else if n=28 then 75 else if n=46 then 226 else if n=51 then 290 else if n=53 then 158 else if n=131 then 287 else if n=182 then 282 else if n=183 then 283 else if n=218 then 340 else if n=222 then 344 else if n=228 then 365 else if n=229 then 245 else 0,fun n=>n⟩
theorem CP:Go.Proofs.Lays.n189 au Pt where
 mixed:=ag
 f125:=ag
 f128:=ag
 f129:=ag
 f189:=ag
 f215:=ag
 f216:=ag
 f257:=ag
 f294:=ag
 f295:=ag
 f296:=ag
 f297:=ag
 f298:=ag
 f299:=ag
 f300:=ag
 f301:=ag
 f328:=ag
 f329:=ag
 f330:=ag
 f331:=ag
 f332:=ag
 f343:=ag
 t0:=ag
 a0:=fun _=>ag
 z0:=fun _=>ag
 v0:=fun _=>ag
 t3:=ag
 a3:=fun _=>ag
 z3:=fun _=>ag
 v3:=fun _=>ag
 t4:=ag
 a4:=fun _=>ag
 z4:=fun _=>ag
 v4:=fun _=>ag
 t5:=ag
 a5:=fun _=>ag
 z5:=fun _=>ag
 v5:=fun _=>ag
 t9:=ag
 a9:=fun _=>ag
 z9:=fun _=>ag
 v9:=fun _=>ag
 t28:=ag
 a28:=fun _=>ag
 z28:=fun _=>ag
 v28:=fun _=>ag
 t46:=ag
 a46:=fun _=>ag
 z46:=fun _=>ag
 v46:=fun _=>ag
 t51:=ag
 a51:=fun _=>ag
 z51:=fun _=>ag
 v51:=fun _=>ag
 t53:=ag
 a53:=fun _=>ag
 z53:=fun _=>ag
 v53:=fun _=>ag
 t131:=ag
 a131:=fun _=>ag
 z131:=fun _=>ag
 v131:=fun _=>ag
 t182:=ag
 a182:=fun _=>ag
 z182:=fun _=>ag
 v182:=fun _=>ag
 t183:=ag
 a183:=fun _=>ag
 z183:=fun _=>ag
 v183:=fun _=>ag
 t218:=ag
 a218:=fun _=>ag
 z218:=fun _=>ag
 v218:=fun _=>ag
 t222:=ag
 a222:=fun _=>ag
 z222:=fun _=>ag
 v222:=fun _=>ag
 t228:=ag
 a228:=fun _=>ag
 z228:=fun _=>ag
 v228:=fun _=>ag
 t229:=ag
 a229:=fun _=>ag
 z229:=fun _=>ag
 v229:=fun _=>ag
theorem Qf (B n:Nat) (v:Value) (a:List Int) (w:World) (q:bm w B 3 1 v n (a.map<|gA .i64)) (I:a.length≤1048576):
 ba au 71 [v].toArray w (fun G w'=>G= .tuple #[]∧bm w' B 3 1 v n ((a.mergeSort fun x y=>decide (x≤y)).map<|gA .i64)∧Md (fun k=>v.ownBlock=some k) w w'):=by
 have hn:a.length=n:=by have :=q.1; simpa using this
 have hlen:(a.mergeSort fun x y=>decide (x≤y)).length=a.length:=List.length_mergeSort _
 rcases q.2 with ⟨rfl,J⟩ | ⟨g,cap,cur,rfl,A,i,h1,h2,h3,h4⟩
 · have E:a= []:=gi ab
   subst E
   refine kf (Any.slices_Sort_int_none CP none 0 w) ?_
   rintro e w' ⟨rfl,rfl⟩
   exact ⟨_,aa,aa,by rw [List.mergeSort_nil]; exact q,Md.refl _ _⟩
 · subst hn
   rw [Nat.mul_one] at h4
   refine kf (calls_of_every_depth fun D=>AnyS.slices_Sort_int_alone CP D g 0 cap a w (holds_of_blockI i h4) (cg.1 i).1 ab) ?_
   rintro e w' ⟨rfl,m,os,rfl⟩
   have c:=grownBy_sortedI (w:=w) (g:=g) (n:=m) (os:=os) (a.mergeSort fun x y=>decide (x≤y)).toArray
   refine ⟨_,aa,aa,ownsRow_sortedI hlen A i h1 h2 h3,⟨c.os,c.output,c.size,fun k hk C=>c.block k hk fun he=>C ?_⟩⟩
   simp only [gh]; exact he.symm
end Go.Hb
