/-
  Walks and plain laws that the law rests on, laid together. No conditions but those that each theorem names.
-/
import Derived.Test.YtffmhpaepdkabaaGreatDoorMnDeriveSound4
set_option linter.unusedVariables false
set_option maxRecDepth 20000
set_option maxHeartbeats 1000000
open Array renaming getElem?_eq_some_iff→cy
open Bool renaming noConfusion→c7,or_eq_false_iff→n8
open Classical renaming byContradiction→qD,not_not→lE
open Go.Calls renaming mono→jQ
open Go.Proofs.Tryz renaming prog→ao
open Go.Value renaming agg→bq,bool→bQ,int→gG,oneCell'→eW,ownBlock→fT,slice→bB,tuple→jc
open Go.World renaming ownsRow→bp,ownsRow_nil→dJ
open Int renaming toNat_natCast→jv
open List renaming all_cons→vu,all_eq_true→kD,append_assoc→dK,append_nil→eb,count_eq_zero→om,count_le_length→qM,drop_eq_nil_of_le→k0,eq_nil_of_length_eq_zero→gr,ext_getElem?→nB,getD_eq_getElem?_getD→cX,getElem?_append_left→lG,getElem?_append_right→me,getElem?_cons_zero→vz,getElem?_drop→sQ,getElem?_eq_getElem→cj,getElem?_eq_none_iff→Gp,getElem?_eq_some_iff→eH,getElem?_map→gu,getElem?_set→jR,getElem?_take→mg,getElem?_zip_eq_some→iR,length→k3,length_append→bJ,length_cons→bV,length_map→eX,length_nil→fV,length_pos_iff→mW,length_set→sS,length_singleton→iH,length_take→ec,length_zip→vD,map_append→iJ,map_cons→nD,mem_cons→eY,mem_cons_self→pn,mem_filter→Gu,mem_flatMap→qP,mem_of_getElem?→gV,not_mem_nil→sW,of_mem_zip→Gz,take_of_length_le→fq,toArray→a7
open Nat renaming le_refl→cw,le_trans→e9,lt_or_ge→gI,zero_add→fF
open Prod renaming snd→lM
open Go.Proofs.Tryz
open Go.Hb.dG Go.Proofs Go.Hb.eO Go.Hb.fL Go.Hb.ml Go.Hb.ou Go.Hb.fW

namespace Go.Hb
def fP (s:Tx):Option Value:=if s=db then some (bq #[.int .i64 (4:Nat),.func (.func 135) #[] #[]]) else if s=ic then some (bq #[.int .i64 (4:Nat),.func (.func 135) #[] #[]]) else if s=hZ then some (bq #[.int .i64 (2:Nat),.func (.func 134) #[] #[]]) else if s=iO then some (bq #[.int .i64 (2:Nat),.func (.func 133) #[] #[]]) else if s=kP then some (bq #[.int .i64 (2:Nat),.func (.func 132) #[] #[]]) else if s=kr then some (bq #[.int .i64 (2:Nat),.func (.func 131) #[] #[]]) else if s=j0 then some (bq #[.int .i64 (2:Nat),.func (.func 131) #[] #[]]) else if s=jK then some (bq #[.int .i64 (2:Nat),.func (.func 131) #[] #[]]) else if s=jn then some (bq #[.int .i64 (2:Nat),.func (.func 131) #[] #[]]) else if s=iX then some (bq #[.int .i64 (2:Nat),.func (.func 131) #[] #[]]) else if s=iP then some (bq #[.int .i64 (2:Nat),.func (.func 130) #[] #[]]) else if s=iu then some (bq #[.int .i64 (2:Nat),.func (.func 129) #[] #[]]) else if s=ib then some (bq #[.int .i64 (2:Nat),.func (.func 128) #[] #[]]) else none
def zF:Value→Option Value:=fun _=>none
def zG:Tx→Option Value:=fun _=>none
theorem str_inj {a b:Tx} :str a=str b↔a=b:=⟨fun h=>by unfold str at h; cases h; rfl,fun h=>by rw [h]⟩
theorem kS {f:Value→Option Value} {g:Tx→Option Value} {k:Tx} {v:Value} (h:∀ s,f (str s)=g s) (s:Tx):bD f (str k) v (str s)=if s=k then some v else g s:=by
 by_cases hs:s=k
 · subst hs; rw [r7,if_pos rfl]
 · rw [qh (fun h2=>hs<|str_inj.1 h2),if_neg hs,h s]
theorem Nh (w:World):
 bd ao 83 (a7 []) w (fun v w'=> ∃ b,v= .map (some b)∧b=w.heap.size∧(∃ f,bU w'.heap b gD f∧∀ s,f (str s)=fP s)∧Wk w w'):=by
 refine enter func83 aa ntmps83 aa<|ak fun Z=>ay<|Z<|ak fun ab=>e<|rX fun a c bh aL ac=> ?_
 have aM:bU c.heap a gD zF:=bU.nil ac
 have bi:∀ s:Tx,zF (str s)=zG s:=fun _=>rfl
 have ad:Wk w c:=aL.md
 refine p (cT (ps:= [(0,aj 2),(1,.func (.func 128) #[] #[])]) (L:= [aj 2,.func (.func 128) #[] #[]]) kW aa<|aa)<|e<|kO kz gp (aM) aa aa aa (⟨_,aa⟩) fun G aD aS=> ?_
 have a0:bU G.heap a gD (bD zF (str ib)<|bq #[aj 2,.func (.func 128) #[] #[]]):=aS
 have bj:=kS (k:=ib) (v:=bq #[aj 2,.func (.func 128) #[] #[]]) bi
 have ae:Wk w G:=ad.trans' aD fun k hk h=>by omega
 refine p (cT (ps:= [(0,aj 2),(1,.func (.func 129) #[] #[])]) (L:= [aj 2,.func (.func 129) #[] #[]]) kW aa<|aa)<|e<|kO kz gp (a0) aa aa aa (⟨_,aa⟩) fun U aI aX=> ?_
 have a1:bU U.heap a gD (bD (bD zF (str ib)<|bq #[aj 2,.func (.func 128) #[] #[]]) (str iu)<|bq #[aj 2,.func (.func 129) #[] #[]]):=aX
 have bo:=kS (k:=iu) (v:=bq #[aj 2,.func (.func 129) #[] #[]]) bj
 have am:Wk w U:=ae.trans' aI fun k hk h=>by omega
 refine p (cT (ps:= [(0,aj 2),(1,.func (.func 130) #[] #[])]) (L:= [aj 2,.func (.func 130) #[] #[]]) kW aa<|aa)<|e<|kO kz gp (a1) aa aa aa (⟨_,aa⟩) fun V aJ aY=> ?_
 have a5:bU V.heap a gD (bD (bD (bD zF (str ib)<|bq #[aj 2,.func (.func 128) #[] #[]]) (str iu)<|bq #[aj 2,.func (.func 129) #[] #[]]) (str iP)<|bq #[aj 2,.func (.func 130) #[] #[]]):=aY
 have bp:=kS (k:=iP) (v:=bq #[aj 2,.func (.func 130) #[] #[]]) bo
 have an:Wk w V:=am.trans' aJ fun k hk h=>by omega
 refine p (cT (ps:= [(0,aj 2),(1,.func (.func 131) #[] #[])]) (L:= [aj 2,.func (.func 131) #[] #[]]) kW aa<|aa)<|e<|kO kz gp (a5) aa aa aa (⟨_,aa⟩) fun Y aK aZ=> ?_
 have a6:bU Y.heap a gD (bD (bD (bD (bD zF (str ib)<|bq #[aj 2,.func (.func 128) #[] #[]]) (str iu)<|bq #[aj 2,.func (.func 129) #[] #[]]) (str iP)<|bq #[aj 2,.func (.func 130) #[] #[]]) (str iX)<|bq #[aj 2,.func (.func 131) #[] #[]]):=aZ
 have br:=kS (k:=iX) (v:=bq #[aj 2,.func (.func 131) #[] #[]]) bp
 have ap:Wk w Y:=an.trans' aK fun k hk h=>by omega
 refine p (cT (ps:= [(0,aj 2),(1,.func (.func 131) #[] #[])]) (L:= [aj 2,.func (.func 131) #[] #[]]) kW aa<|aa)<|e<|kO kz gp (a6) aa aa aa (⟨_,aa⟩) fun i ax aN=> ?_
 have a8:bU i.heap a gD (bD (bD (bD (bD (bD zF (str ib)<|bq #[aj 2,.func (.func 128) #[] #[]]) (str iu)<|bq #[aj 2,.func (.func 129) #[] #[]]) (str iP)<|bq #[aj 2,.func (.func 130) #[] #[]]) (str iX)<|bq #[aj 2,.func (.func 131) #[] #[]]) (str jn)<|bq #[aj 2,.func (.func 131) #[] #[]]):=aN
 have bs:=kS (k:=jn) (v:=bq #[aj 2,.func (.func 131) #[] #[]]) br
 have aq:Wk w i:=ap.trans' ax fun k hk h=>by omega
 refine p (cT (ps:= [(0,aj 2),(1,.func (.func 131) #[] #[])]) (L:= [aj 2,.func (.func 131) #[] #[]]) kW aa<|aa)<|e<|kO kz gp (a8) aa aa aa (⟨_,aa⟩) fun q az aO=> ?_
 have a9:bU q.heap a gD (bD (bD (bD (bD (bD (bD zF (str ib)<|bq #[aj 2,.func (.func 128) #[] #[]]) (str iu)<|bq #[aj 2,.func (.func 129) #[] #[]]) (str iP)<|bq #[aj 2,.func (.func 130) #[] #[]]) (str iX)<|bq #[aj 2,.func (.func 131) #[] #[]]) (str jn)<|bq #[aj 2,.func (.func 131) #[] #[]]) (str jK)<|bq #[aj 2,.func (.func 131) #[] #[]]):=aO
 have bt:=kS (k:=jK) (v:=bq #[aj 2,.func (.func 131) #[] #[]]) bs
 have ar:Wk w q:=aq.trans' az fun k hk h=>by omega
 refine p (cT (ps:= [(0,aj 2),(1,.func (.func 131) #[] #[])]) (L:= [aj 2,.func (.func 131) #[] #[]]) kW aa<|aa)<|e<|kO kz gp (a9) aa aa aa (⟨_,aa⟩) fun A aA aP=> ?_
 have bb:bU A.heap a gD (bD (bD (bD (bD (bD (bD (bD zF (str ib)<|bq #[aj 2,.func (.func 128) #[] #[]]) (str iu)<|bq #[aj 2,.func (.func 129) #[] #[]]) (str iP)<|bq #[aj 2,.func (.func 130) #[] #[]]) (str iX)<|bq #[aj 2,.func (.func 131) #[] #[]]) (str jn)<|bq #[aj 2,.func (.func 131) #[] #[]]) (str jK)<|bq #[aj 2,.func (.func 131) #[] #[]]) (str j0)<|bq #[aj 2,.func (.func 131) #[] #[]]):=aP
 have bu:=kS (k:=j0) (v:=bq #[aj 2,.func (.func 131) #[] #[]]) bt
 have au:Wk w A:=ar.trans' aA fun k hk h=>by omega
 refine p (cT (ps:= [(0,aj 2),(1,.func (.func 131) #[] #[])]) (L:= [aj 2,.func (.func 131) #[] #[]]) kW aa<|aa)<|e<|kO kz gp (bb) aa aa aa (⟨_,aa⟩) fun C aB aQ=> ?_
 have bc:bU C.heap a gD (bD (bD (bD (bD (bD (bD (bD (bD zF (str ib)<|bq #[aj 2,.func (.func 128) #[] #[]]) (str iu)<|bq #[aj 2,.func (.func 129) #[] #[]]) (str iP)<|bq #[aj 2,.func (.func 130) #[] #[]]) (str iX)<|bq #[aj 2,.func (.func 131) #[] #[]]) (str jn)<|bq #[aj 2,.func (.func 131) #[] #[]]) (str jK)<|bq #[aj 2,.func (.func 131) #[] #[]]) (str j0)<|bq #[aj 2,.func (.func 131) #[] #[]]) (str kr)<|bq #[aj 2,.func (.func 131) #[] #[]]):=aQ
 have bv:=kS (k:=kr) (v:=bq #[aj 2,.func (.func 131) #[] #[]]) bu
 have av:Wk w C:=au.trans' aB fun k hk h=>by omega
 refine p (cT (ps:= [(0,aj 2),(1,.func (.func 132) #[] #[])]) (L:= [aj 2,.func (.func 132) #[] #[]]) kW aa<|aa)<|e<|kO kz gp (bc) aa aa aa (⟨_,aa⟩) fun E aC aR=> ?_
 have bf:bU E.heap a gD (bD (bD (bD (bD (bD (bD (bD (bD (bD zF (str ib)<|bq #[aj 2,.func (.func 128) #[] #[]]) (str iu)<|bq #[aj 2,.func (.func 129) #[] #[]]) (str iP)<|bq #[aj 2,.func (.func 130) #[] #[]]) (str iX)<|bq #[aj 2,.func (.func 131) #[] #[]]) (str jn)<|bq #[aj 2,.func (.func 131) #[] #[]]) (str jK)<|bq #[aj 2,.func (.func 131) #[] #[]]) (str j0)<|bq #[aj 2,.func (.func 131) #[] #[]]) (str kr)<|bq #[aj 2,.func (.func 131) #[] #[]]) (str kP)<|bq #[aj 2,.func (.func 132) #[] #[]]):=aR
 have bw:=kS (k:=kP) (v:=bq #[aj 2,.func (.func 132) #[] #[]]) bv
 have aw:Wk w E:=av.trans' aC fun k hk h=>by omega
 refine p (cT (ps:= [(0,aj 2),(1,.func (.func 133) #[] #[])]) (L:= [aj 2,.func (.func 133) #[] #[]]) kW aa<|aa)<|e<|kO kz gp (bf) aa aa aa (⟨_,aa⟩) fun I aE aT=> ?_
 have bg:bU I.heap a gD (bD (bD (bD (bD (bD (bD (bD (bD (bD (bD zF (str ib)<|bq #[aj 2,.func (.func 128) #[] #[]]) (str iu)<|bq #[aj 2,.func (.func 129) #[] #[]]) (str iP)<|bq #[aj 2,.func (.func 130) #[] #[]]) (str iX)<|bq #[aj 2,.func (.func 131) #[] #[]]) (str jn)<|bq #[aj 2,.func (.func 131) #[] #[]]) (str jK)<|bq #[aj 2,.func (.func 131) #[] #[]]) (str j0)<|bq #[aj 2,.func (.func 131) #[] #[]]) (str kr)<|bq #[aj 2,.func (.func 131) #[] #[]]) (str kP)<|bq #[aj 2,.func (.func 132) #[] #[]]) (str iO)<|bq #[aj 2,.func (.func 133) #[] #[]]):=aT
 have bk:=kS (k:=iO) (v:=bq #[aj 2,.func (.func 133) #[] #[]]) bw
 have ag:Wk w I:=aw.trans' aE fun k hk h=>by omega
 refine p (cT (ps:= [(0,aj 2),(1,.func (.func 134) #[] #[])]) (L:= [aj 2,.func (.func 134) #[] #[]]) kW aa<|aa)<|e<|kO kz gp (bg) aa aa aa (⟨_,aa⟩) fun J aF aU=> ?_
 have a2:bU J.heap a gD (bD (bD (bD (bD (bD (bD (bD (bD (bD (bD (bD zF (str ib)<|bq #[aj 2,.func (.func 128) #[] #[]]) (str iu)<|bq #[aj 2,.func (.func 129) #[] #[]]) (str iP)<|bq #[aj 2,.func (.func 130) #[] #[]]) (str iX)<|bq #[aj 2,.func (.func 131) #[] #[]]) (str jn)<|bq #[aj 2,.func (.func 131) #[] #[]]) (str jK)<|bq #[aj 2,.func (.func 131) #[] #[]]) (str j0)<|bq #[aj 2,.func (.func 131) #[] #[]]) (str kr)<|bq #[aj 2,.func (.func 131) #[] #[]]) (str kP)<|bq #[aj 2,.func (.func 132) #[] #[]]) (str iO)<|bq #[aj 2,.func (.func 133) #[] #[]]) (str hZ)<|bq #[aj 2,.func (.func 134) #[] #[]]):=aU
 have bl:=kS (k:=hZ) (v:=bq #[aj 2,.func (.func 134) #[] #[]]) bk
 have ah:Wk w J:=ag.trans' aF fun k hk h=>by omega
 refine p (cT (ps:= [(0,aj 4),(1,.func (.func 135) #[] #[])]) (L:= [aj 4,.func (.func 135) #[] #[]]) kW aa<|aa)<|e<|kO kz gp (a2) aa aa aa (⟨_,aa⟩) fun M aG aV=> ?_
 have a3:bU M.heap a gD (bD (bD (bD (bD (bD (bD (bD (bD (bD (bD (bD (bD zF (str ib)<|bq #[aj 2,.func (.func 128) #[] #[]]) (str iu)<|bq #[aj 2,.func (.func 129) #[] #[]]) (str iP)<|bq #[aj 2,.func (.func 130) #[] #[]]) (str iX)<|bq #[aj 2,.func (.func 131) #[] #[]]) (str jn)<|bq #[aj 2,.func (.func 131) #[] #[]]) (str jK)<|bq #[aj 2,.func (.func 131) #[] #[]]) (str j0)<|bq #[aj 2,.func (.func 131) #[] #[]]) (str kr)<|bq #[aj 2,.func (.func 131) #[] #[]]) (str kP)<|bq #[aj 2,.func (.func 132) #[] #[]]) (str iO)<|bq #[aj 2,.func (.func 133) #[] #[]]) (str hZ)<|bq #[aj 2,.func (.func 134) #[] #[]]) (str ic)<|bq #[aj 4,.func (.func 135) #[] #[]]):=aV
 have bm:=kS (k:=ic) (v:=bq #[aj 4,.func (.func 135) #[] #[]]) bl
 have ai:Wk w M:=ah.trans' aG fun k hk h=>by omega
 refine p (cT (ps:= [(0,aj 4),(1,.func (.func 135) #[] #[])]) (L:= [aj 4,.func (.func 135) #[] #[]]) kW aa<|aa)<|e<|kO kz gp (a3) aa aa aa (⟨_,aa⟩) fun O aH aW=> ?_
 have a4:bU O.heap a gD (bD (bD (bD (bD (bD (bD (bD (bD (bD (bD (bD (bD (bD zF (str ib)<|bq #[aj 2,.func (.func 128) #[] #[]]) (str iu)<|bq #[aj 2,.func (.func 129) #[] #[]]) (str iP)<|bq #[aj 2,.func (.func 130) #[] #[]]) (str iX)<|bq #[aj 2,.func (.func 131) #[] #[]]) (str jn)<|bq #[aj 2,.func (.func 131) #[] #[]]) (str jK)<|bq #[aj 2,.func (.func 131) #[] #[]]) (str j0)<|bq #[aj 2,.func (.func 131) #[] #[]]) (str kr)<|bq #[aj 2,.func (.func 131) #[] #[]]) (str kP)<|bq #[aj 2,.func (.func 132) #[] #[]]) (str iO)<|bq #[aj 2,.func (.func 133) #[] #[]]) (str hZ)<|bq #[aj 2,.func (.func 134) #[] #[]]) (str ic)<|bq #[aj 4,.func (.func 135) #[] #[]]) (str db)<|bq #[aj 4,.func (.func 135) #[] #[]]):=aW
 have bn:=kS (k:=db) (v:=bq #[aj 4,.func (.func 135) #[] #[]]) bm
 have al:Wk w O:=ai.trans' aH fun k hk h=>by omega
 exact p mv<|ay<|ab<|rt<|ba aa<|⟨a,aa,bh,⟨_,a4,fun s=>bn s⟩,al⟩
theorem PQ (C E:Nat) (w:World):
 CallsD ao 82 (a7 [.pointer (some ⟨C,0,none⟩),.pointer (some ⟨E,0,none⟩)]) .returning w (fun en G w'=> ∃ v,en= .returned v∧G= .returning∧(fun w'=>Wk w w') w'):=by
 refine A9 (v:= .nilIface) func82 aa ntmps82 aa (fun M cs A=> .inr ⟨by simp [recoverD,A],aa,aa⟩) ?_
 refine p (Rf yg Ss aa)<|p mv<|p (xt aa aa)<|p (xt aa aa)<|e<|al mR fun J V U q a=>e<|ca gY aa aa aa aa (a) (by simp) fun Y i O=>p aA<|nl<|tn<|sq fun I c=>rg aa<|p mv<|nl<|tn<|c _ _<|cf (aa)<|aO<|f0 aa ?_
 exact q.md.trans' i fun k hk h=>by omega
theorem PO (a c:Nat) (ln:Nat) (er:Int) (w:World) (h2:∃ v:Value,w.heap[a]? =some (.cells [v].toArray 60 (0,0))) (h3:∃ L:List Value,L.length=3∧w.heap[c]? =some (.cells L.toArray 47 (0,0))) (O:a≠c):
 CallsD ao 82 (a7 [.pointer (some ⟨a,0,none⟩),.pointer (some ⟨c,0,none⟩)]) (.panicking<|gB 47 ln er) w (fun en am w'=> ∃ v,en= .returned v∧am=(.panicking [{v:= .iface 47 (.agg [.int .i64 1,.int .i64 (ln:Nat),.int .i64 er].toArray),recovered:=true}])∧(fun w'=>w'.heap[a]? =some (.cells [.pointer none].toArray 60 (0,0))∧w'.heap[c]? =some (.cells [.int .i64 1,.int .i64 (ln:Nat),.int .i64 er].toArray 47 (0,0))∧Md (fun k=>k=a∨k=c) w w') w'):=by
 obtain ⟨v2,h2⟩:=h2
 obtain ⟨I,ae,h3⟩:=h3
 have aw:=(cy.1 h2).1
 have ax:=(cy.1 h3).1
 refine A9 (v:= .iface 47<|.agg [.int .i64 1,.int .i64 (ln:Nat),.int .i64 er].toArray) func82 aa ntmps82 aa (fun ar cs aj=> .inl<|by simp [recoverD,aj,gB]) ?_
 refine p (Re yg aa)<|p mv<|p (xt aa aa)<|p (xt aa aa)<|e<|al mR fun U ay au E Y=>e<|ca gY aa aa aa aa (Y) (by simp) fun i q V=> ?_
 have ac:bw i.heap U [.int .i64 1,.int .i64 (ln:Nat),.int .i64 er]:=V
 refine p aA<|nl<|tn<|sq fun aq ad=>rg aa<|p mv<|nl<|tn<|ad _ _<|ct (aa) ?_
 have G:(fun w'=>Md (fun k=>k=a∨k=c) i w') i.drew:=(Md.refl _ _).drew
 refine bM (fun w'=>Md (fun k=>k=a∨k=c) i w') aa wide G<|hp 0 aa ag (fun w' ah=>cz jz aa (aa) fun j av=>bw.bm (Md.B ah ac fun h=>by omega) j) G<|he 1 aa ag<|dF xd aa aa (v:= .pointer none) aa (q.aB (Wk.aB E.md h2) fun h=>by omega) (by show 0 < 1; decide) fun an A Z=> ?_
 have M:(fun w'=>Md (fun k=>k=a∨k=c) i w') an:=G.trans' A fun _ _ h=> .inl h
 refine ⟨M,?_⟩
 refine he 2 aa ag<|gi gY aa aa aa aa (A.aB (q.aB (Wk.aB E.md h3) fun h=>by omega) fun h=>O h.symm) (by rw [ae]; decide) fun ap C J=> ?_
 have ai:(fun w'=>Md (fun k=>k=a∨k=c) i w') ap:=M.trans' C fun _ _ h=> .inr h
 refine ⟨ai,?_⟩
 refine hn ag<|f0 aa ?_
 have ak:I.take 0 ++ [gG .i64 1,.int .i64 (ln:Nat),.int .i64 er]++I.drop (0 +3)= [gG .i64 1,.int .i64 (ln:Nat),.int .i64 er]:=by rw [k0 ab]; rfl
 rw [ak] at J
 exact ⟨C.aB Z O,J,(((E.md.mono fun _ _ h=>h.elim).trans' q fun k hk h=>by omega).trans' (ig A) fun _ _ h=> .inl h).trans' C fun _ _ h=> .inr h⟩
theorem D2 (a c:Nat) (w:World):(invoke (.fn (.func 82) #[aW a,aW c]) #[]).run ao w= .ok (.enter 82 #[aW a,aW c]) w:=by
 have h:=I8 #[aW a,aW c] w
 simp [invoke,h]
theorem tN {n:Nat} {D:List Deferred} {G:List Nat} {σ:Nat→Value} {t:Nat} (h:t < n):ev ⟨n,D,G,none⟩ σ (.tmp t)=σ t:=by
 show cond (Nat.blt t n) (σ t) undef=_
 rw [show Nat.blt t n=true from by simpa using h]; rfl
theorem PU {n:Nat} {G:List Nat} {fn:Func} {R:Value→World→Prop} {σ:Nat→Value} {w:World} {a c ln:Nat} {er:Int} (E:fn.results= #[.cell 2 60,.cell 3 47]) (M:3 < n) (I:σ 2= .pointer (some ⟨a,0,none⟩)) (J:σ 3= .pointer (some ⟨c,0,none⟩)) (h2:∃ v:Value,w.heap[a]? =some (.cells [v].toArray 60 (0,0))) (h3:∃ L:List Value,L.length=3∧w.heap[c]? =some (.cells L.toArray 47 (0,0))) (C:a≠c)
 (i:∀ w',Md (fun k=>k=a∨k=c) w w'→R (.tuple #[.pointer none,.agg [.int .i64 1,.int .i64 (ln:Nat),.int .i64 er].toArray]) w'):qb ⟨n,[{target:= .fn (.func 82) #[.pointer (some ⟨a,0,none⟩),.pointer (some ⟨c,0,none⟩)],args:= #[]}],G,none⟩ (nJ ao fn R) (.panic<|gB 47 ln er) σ w:=by
 refine L0 (D2 a c w) (PO a c ln er w h2 h3 C) ?_
 rintro w' ⟨q,A,hm⟩
 exact ⟨_,uu E (lx<|yI ((tN ab).trans I) eF<|(aY q).trans aa) (lx<|dB (cs:= [.int .i64 1,.int .i64 (ln:Nat),.int .i64 er]) ((tN ab).trans J) jz aa fun j _=>by rw [fF,aY A]; simp),i w' hm⟩
theorem PV {n:Nat} {G:List Nat} {fn:Func} {R:Value→World→Prop} {σ:Nat→Value} {w:World} {a c:Nat} {v:Value} {L:List Value} (E:fn.results= #[.cell 2 60,.cell 3 47]) (M:3 < n) (I:σ 2= .pointer (some ⟨a,0,none⟩)) (J:σ 3= .pointer (some ⟨c,0,none⟩)) (h2:w.heap[a]? =some (.cells [v].toArray 60 (0,0))) (h3:w.heap[c]? =some (.cells L.toArray 47 (0,0))) (i:L.length=3)
 (q:∀ w',Wk w w'→R (.tuple #[v,.agg L.toArray]) w'):qb ⟨n,[{target:= .fn (.func 82) #[.pointer (some ⟨a,0,none⟩),.pointer (some ⟨c,0,none⟩)],args:= #[]}],G,none⟩ (nJ ao fn R) .ret σ w:=by
 refine LZ (D2 a c w) (PQ a c w) ?_
 intro w' hm
 have A:=Wk.aB hm h2
 have C:=Wk.aB hm h3
 exact ⟨_,uu E (lx<|yI ((tN ab).trans I) eF<|(aY A).trans aa) (lx<|dB (cs:=L) ((tN ab).trans J) jz i fun j _=>by rw [fF,aY C]; simp),q w' hm⟩
theorem M1 (B:Nat) (H:bT) (F:aG) (rows:List Rw) (ln:Nat) (seen:List Tx) (r:List Tx) (a:Nat) (ar:Option Addr) (cr:Nat) (w:World) (c:St w B H F rows ln seen) (i:Tg w a 9 r.length (.slice ar r.length cr) (r.map str)) (q:∀ x∈r,x.length≤70000) (hw:r.length=width (r.getD 0 [])) (E:iU F seen) (C:width (r.getD 0 [])=2→r.getD 0 []∉seen) (A:F.c6.length+F.aliases.length+F.bu.length+F.rules.length+rows.length < 70000) (hk:r.getD 0 []=ib):ee ao 128 (a7 [.pointer (some ⟨H.rb,0,none⟩),.slice ar r.length cr]) w (gM B H seen (bS H.eof F seen rows ln r) w) (gL B H (bS H.eof F seen rows ln r) w):=by
 have h:=N3 B H F rows ln seen r a ar cr w c i (by rw [hw,hk]; decide) q
 rw [show bS H.eof F seen rows ln r=j5 F seen rows ln r from by unfold bS; rw [hk]; rfl]
 exact h
theorem M9 (B:Nat) (H:bT) (F:aG) (rows:List Rw) (ln:Nat) (seen:List Tx) (r:List Tx) (a:Nat) (ar:Option Addr) (cr:Nat) (w:World) (c:St w B H F rows ln seen) (i:Tg w a 9 r.length (.slice ar r.length cr) (r.map str)) (q:∀ x∈r,x.length≤70000) (hw:r.length=width (r.getD 0 [])) (E:iU F seen) (C:width (r.getD 0 [])=2→r.getD 0 []∉seen) (A:F.c6.length+F.aliases.length+F.bu.length+F.rules.length+rows.length < 70000) (hk:r.getD 0 []=iu):ee ao 129 (a7 [.pointer (some ⟨H.rb,0,none⟩),.slice ar r.length cr]) w (gM B H seen (bS H.eof F seen rows ln r) w) (gL B H (bS H.eof F seen rows ln r) w):=by
 have h:=Jk B H F rows ln seen r a ar cr w c i (by rw [hw,hk]; decide) q
 rw [show bS H.eof F seen rows ln r=l0 F rows ln r from by unfold bS; rw [hk]; rfl]
 exact h
theorem Nb (B:Nat) (H:bT) (F:aG) (rows:List Rw) (ln:Nat) (seen:List Tx) (r:List Tx) (a:Nat) (ar:Option Addr) (cr:Nat) (w:World) (c:St w B H F rows ln seen) (i:Tg w a 9 r.length (.slice ar r.length cr) (r.map str)) (q:∀ x∈r,x.length≤70000) (hw:r.length=width (r.getD 0 [])) (E:iU F seen) (C:width (r.getD 0 [])=2→r.getD 0 []∉seen) (A:F.c6.length+F.aliases.length+F.bu.length+F.rules.length+rows.length < 70000) (hk:r.getD 0 []=iP):ee ao 130 (a7 [.pointer (some ⟨H.rb,0,none⟩),.slice ar r.length cr]) w (gM B H seen (bS H.eof F seen rows ln r) w) (gL B H (bS H.eof F seen rows ln r) w):=by
 have h:=RB B H F rows ln seen r a ar cr w c i (by rw [hw,hk]; decide) q
 rw [show bS H.eof F seen rows ln r=l1 F rows ln r from by unfold bS; rw [hk]; rfl]
 exact h
theorem M5 (B:Nat) (H:bT) (F:aG) (rows:List Rw) (ln:Nat) (seen:List Tx) (r:List Tx) (a:Nat) (ar:Option Addr) (cr:Nat) (w:World) (c:St w B H F rows ln seen) (i:Tg w a 9 r.length (.slice ar r.length cr) (r.map str)) (A:∀ x∈r,x.length≤70000) (hw:r.length=width (r.getD 0 [])) (C:iU F seen) (q:width (r.getD 0 [])=2→r.getD 0 []∉seen) (E:F.c6.length+F.aliases.length+F.bu.length+F.rules.length+rows.length < 70000) (hk:r.getD 0 []=iX):ee ao 131 (a7 [.pointer (some ⟨H.rb,0,none⟩),.slice ar r.length cr]) w (gM B H seen (bS H.eof F seen rows ln r) w) (gL B H (bS H.eof F seen rows ln r) w):=by
 have h:=sn B H F rows ln seen r a ar cr w c i (by rw [hw,hk]; decide) A (by rw [hk]; decide)<|C _ (by rw [hk]; decide)<|q<|by rw [hk]; decide
 rw [show bS H.eof F seen rows ln r=js F rows ln r from by unfold bS; rw [hk]; rfl]
 exact h
theorem M2 (B:Nat) (H:bT) (F:aG) (rows:List Rw) (ln:Nat) (seen:List Tx) (r:List Tx) (a:Nat) (ar:Option Addr) (cr:Nat) (w:World) (c:St w B H F rows ln seen) (i:Tg w a 9 r.length (.slice ar r.length cr) (r.map str)) (A:∀ x∈r,x.length≤70000) (hw:r.length=width (r.getD 0 [])) (C:iU F seen) (q:width (r.getD 0 [])=2→r.getD 0 []∉seen) (E:F.c6.length+F.aliases.length+F.bu.length+F.rules.length+rows.length < 70000) (hk:r.getD 0 []=jn):ee ao 131 (a7 [.pointer (some ⟨H.rb,0,none⟩),.slice ar r.length cr]) w (gM B H seen (bS H.eof F seen rows ln r) w) (gL B H (bS H.eof F seen rows ln r) w):=by
 have h:=sn B H F rows ln seen r a ar cr w c i (by rw [hw,hk]; decide) A (by rw [hk]; decide)<|C _ (by rw [hk]; decide)<|q<|by rw [hk]; decide
 rw [show bS H.eof F seen rows ln r=js F rows ln r from by unfold bS; rw [hk]; rfl]
 exact h
theorem M3 (B:Nat) (H:bT) (F:aG) (rows:List Rw) (ln:Nat) (seen:List Tx) (r:List Tx) (a:Nat) (ar:Option Addr) (cr:Nat) (w:World) (c:St w B H F rows ln seen) (i:Tg w a 9 r.length (.slice ar r.length cr) (r.map str)) (A:∀ x∈r,x.length≤70000) (hw:r.length=width (r.getD 0 [])) (C:iU F seen) (q:width (r.getD 0 [])=2→r.getD 0 []∉seen) (E:F.c6.length+F.aliases.length+F.bu.length+F.rules.length+rows.length < 70000) (hk:r.getD 0 []=jK):ee ao 131 (a7 [.pointer (some ⟨H.rb,0,none⟩),.slice ar r.length cr]) w (gM B H seen (bS H.eof F seen rows ln r) w) (gL B H (bS H.eof F seen rows ln r) w):=by
 have h:=sn B H F rows ln seen r a ar cr w c i (by rw [hw,hk]; decide) A (by rw [hk]; decide)<|C _ (by rw [hk]; decide)<|q<|by rw [hk]; decide
 rw [show bS H.eof F seen rows ln r=js F rows ln r from by unfold bS; rw [hk]; rfl]
 exact h
theorem M0 (B:Nat) (H:bT) (F:aG) (rows:List Rw) (ln:Nat) (seen:List Tx) (r:List Tx) (a:Nat) (ar:Option Addr) (cr:Nat) (w:World) (c:St w B H F rows ln seen) (i:Tg w a 9 r.length (.slice ar r.length cr) (r.map str)) (A:∀ x∈r,x.length≤70000) (hw:r.length=width (r.getD 0 [])) (C:iU F seen) (q:width (r.getD 0 [])=2→r.getD 0 []∉seen) (E:F.c6.length+F.aliases.length+F.bu.length+F.rules.length+rows.length < 70000) (hk:r.getD 0 []=j0):ee ao 131 (a7 [.pointer (some ⟨H.rb,0,none⟩),.slice ar r.length cr]) w (gM B H seen (bS H.eof F seen rows ln r) w) (gL B H (bS H.eof F seen rows ln r) w):=by
 have h:=sn B H F rows ln seen r a ar cr w c i (by rw [hw,hk]; decide) A (by rw [hk]; decide)<|C _ (by rw [hk]; decide)<|q<|by rw [hk]; decide
 rw [show bS H.eof F seen rows ln r=js F rows ln r from by unfold bS; rw [hk]; rfl]
 exact h
theorem M6 (B:Nat) (H:bT) (F:aG) (rows:List Rw) (ln:Nat) (seen:List Tx) (r:List Tx) (a:Nat) (ar:Option Addr) (cr:Nat) (w:World) (c:St w B H F rows ln seen) (i:Tg w a 9 r.length (.slice ar r.length cr) (r.map str)) (A:∀ x∈r,x.length≤70000) (hw:r.length=width (r.getD 0 [])) (C:iU F seen) (q:width (r.getD 0 [])=2→r.getD 0 []∉seen) (E:F.c6.length+F.aliases.length+F.bu.length+F.rules.length+rows.length < 70000) (hk:r.getD 0 []=kr):ee ao 131 (a7 [.pointer (some ⟨H.rb,0,none⟩),.slice ar r.length cr]) w (gM B H seen (bS H.eof F seen rows ln r) w) (gL B H (bS H.eof F seen rows ln r) w):=by
 have h:=sn B H F rows ln seen r a ar cr w c i (by rw [hw,hk]; decide) A (by rw [hk]; decide)<|C _ (by rw [hk]; decide)<|q<|by rw [hk]; decide
 rw [show bS H.eof F seen rows ln r=js F rows ln r from by unfold bS; rw [hk]; rfl]
 exact h
theorem M4 (B:Nat) (H:bT) (F:aG) (rows:List Rw) (ln:Nat) (seen:List Tx) (r:List Tx) (a:Nat) (ar:Option Addr) (cr:Nat) (w:World) (c:St w B H F rows ln seen) (i:Tg w a 9 r.length (.slice ar r.length cr) (r.map str)) (q:∀ x∈r,x.length≤70000) (hw:r.length=width (r.getD 0 [])) (E:iU F seen) (C:width (r.getD 0 [])=2→r.getD 0 []∉seen) (A:F.c6.length+F.aliases.length+F.bu.length+F.rules.length+rows.length < 70000) (hk:r.getD 0 []=kP):ee ao 132 (a7 [.pointer (some ⟨H.rb,0,none⟩),.slice ar r.length cr]) w (gM B H seen (bS H.eof F seen rows ln r) w) (gL B H (bS H.eof F seen rows ln r) w):=by
 have h:=N6 B H F rows ln seen r a ar cr w c i (by rw [hw,hk]; decide) q
 rw [show bS H.eof F seen rows ln r=j6 F rows ln r from by unfold bS; rw [hk]; rfl]
 exact h
theorem M8 (B:Nat) (H:bT) (F:aG) (rows:List Rw) (ln:Nat) (seen:List Tx) (r:List Tx) (a:Nat) (ar:Option Addr) (cr:Nat) (w:World) (c:St w B H F rows ln seen) (i:Tg w a 9 r.length (.slice ar r.length cr) (r.map str)) (q:∀ x∈r,x.length≤70000) (hw:r.length=width (r.getD 0 [])) (E:iU F seen) (C:width (r.getD 0 [])=2→r.getD 0 []∉seen) (A:F.c6.length+F.aliases.length+F.bu.length+F.rules.length+rows.length < 70000) (hk:r.getD 0 []=iO):ee ao 133 (a7 [.pointer (some ⟨H.rb,0,none⟩),.slice ar r.length cr]) w (gM B H seen (bS H.eof F seen rows ln r) w) (gL B H (bS H.eof F seen rows ln r) w):=by
 have h:=P4 B H F rows ln seen r a ar cr w c i (by rw [hw,hk]; decide) q
 rw [show bS H.eof F seen rows ln r=j9 H.eof F rows ln r from by unfold bS; rw [hk]; rfl]
 exact h
theorem MZ (B:Nat) (H:bT) (F:aG) (rows:List Rw) (ln:Nat) (seen:List Tx) (r:List Tx) (a:Nat) (ar:Option Addr) (cr:Nat) (w:World) (c:St w B H F rows ln seen) (i:Tg w a 9 r.length (.slice ar r.length cr) (r.map str)) (q:∀ x∈r,x.length≤70000) (hw:r.length=width (r.getD 0 [])) (E:iU F seen) (C:width (r.getD 0 [])=2→r.getD 0 []∉seen) (A:F.c6.length+F.aliases.length+F.bu.length+F.rules.length+rows.length < 70000) (hk:r.getD 0 []=hZ):ee ao 134 (a7 [.pointer (some ⟨H.rb,0,none⟩),.slice ar r.length cr]) w (gM B H seen (bS H.eof F seen rows ln r) w) (gL B H (bS H.eof F seen rows ln r) w):=by
 have h:=Hf B H F rows ln seen r a ar cr w c i (by rw [hw,hk]; decide) q
 rw [show bS H.eof F seen rows ln r=jG H.eof F seen rows ln r from by unfold bS; rw [hk]; rfl]
 exact h
theorem M7 (B:Nat) (H:bT) (F:aG) (rows:List Rw) (ln:Nat) (seen:List Tx) (r:List Tx) (a:Nat) (ar:Option Addr) (cr:Nat) (w:World) (c:St w B H F rows ln seen) (i:Tg w a 9 r.length (.slice ar r.length cr) (r.map str)) (A:∀ x∈r,x.length≤70000) (hw:r.length=width (r.getD 0 [])) (E:iU F seen) (C:width (r.getD 0 [])=2→r.getD 0 []∉seen) (q:F.c6.length+F.aliases.length+F.bu.length+F.rules.length+rows.length < 70000) (hk:r.getD 0 []=ic):ee ao 135 (a7 [.pointer (some ⟨H.rb,0,none⟩),.slice ar r.length cr]) w (gM B H seen (bS H.eof F seen rows ln r) w) (gL B H (bS H.eof F seen rows ln r) w):=by
 have h:=Be B H F rows ln seen r a ar cr w c i (by rw [hw,hk]; decide) A q
 rw [show bS H.eof F seen rows ln r=gA H.eof F rows ln r from by unfold bS; rw [hk]; rfl]
 exact h
theorem Na (B:Nat) (H:bT) (F:aG) (rows:List Rw) (ln:Nat) (seen:List Tx) (r:List Tx) (a:Nat) (ar:Option Addr) (cr:Nat) (w:World) (c:St w B H F rows ln seen) (i:Tg w a 9 r.length (.slice ar r.length cr) (r.map str)) (A:∀ x∈r,x.length≤70000) (hw:r.length=width (r.getD 0 [])) (E:iU F seen) (C:width (r.getD 0 [])=2→r.getD 0 []∉seen) (q:F.c6.length+F.aliases.length+F.bu.length+F.rules.length+rows.length < 70000) (hk:r.getD 0 []=db):ee ao 135 (a7 [.pointer (some ⟨H.rb,0,none⟩),.slice ar r.length cr]) w (gM B H seen (bS H.eof F seen rows ln r) w) (gL B H (bS H.eof F seen rows ln r) w):=by
 have h:=Be B H F rows ln seen r a ar cr w c i (by rw [hw,hk]; decide) A q
 rw [show bS H.eof F seen rows ln r=gA H.eof F rows ln r from by unfold bS; rw [hk]; rfl]
 exact h
theorem CR (B:Nat) (H:bT) (F:aG) (rows:List Rw) (ln:Nat) (seen:List Tx) (r:List Tx) (c:Nat) (ar:Option Addr) (cr:Nat) (w:World) (i:St w B H F rows ln seen) (q:Tg w c 9 r.length (.slice ar r.length cr) (r.map str)) (E:∀ x∈r,x.length≤70000) (hw:r.length=width (r.getD 0 [])) (G:iU F seen) (C:width (r.getD 0 [])=2→r.getD 0 []∉seen) (A:F.c6.length+F.aliases.length+F.bu.length+F.rules.length+rows.length < 70000) {v:Value} (a:fP (r.getD 0 [])=some v):∃ f:Nat,v= .agg [.int .i64 (width (r.getD 0 []):Nat),.func (.func f) #[] #[]].toArray∧bc ao f∧ee ao f (a7 [.pointer (some ⟨H.rb,0,none⟩),.slice ar r.length cr]) w (gM B H seen (bS H.eof F seen rows ln r) w) (gL B H (bS H.eof F seen rows ln r) w):=by
 unfold fP at a
 by_cases hk:r.getD 0 []=db
 · rw [if_pos hk] at a; cases a; exact ⟨_,by rw [hk]; rfl,Az,Na B H F rows ln seen r c ar cr w i q E hw G C A hk⟩
 · rw [if_neg hk] at a; clear hk
   by_cases hk:r.getD 0 []=ic
   · rw [if_pos hk] at a; cases a; exact ⟨_,by rw [hk]; rfl,Az,M7 B H F rows ln seen r c ar cr w i q E hw G C A hk⟩
   · rw [if_neg hk] at a; clear hk
     by_cases hk:r.getD 0 []=hZ
     · rw [if_pos hk] at a; cases a; exact ⟨_,by rw [hk]; rfl,H3,MZ B H F rows ln seen r c ar cr w i q E hw G C A hk⟩
     · rw [if_neg hk] at a; clear hk
       by_cases hk:r.getD 0 []=iO
       · rw [if_pos hk] at a; cases a; exact ⟨_,by rw [hk]; rfl,H2,M8 B H F rows ln seen r c ar cr w i q E hw G C A hk⟩
       · rw [if_neg hk] at a; clear hk
         by_cases hk:r.getD 0 []=kP
         · rw [if_pos hk] at a; cases a; exact ⟨_,by rw [hk]; rfl,H0,M4 B H F rows ln seen r c ar cr w i q E hw G C A hk⟩
         · rw [if_neg hk] at a; clear hk
           by_cases hk:r.getD 0 []=kr
           · rw [if_pos hk] at a; cases a; exact ⟨_,by rw [hk]; rfl,ri,M6 B H F rows ln seen r c ar cr w i q E hw G C A hk⟩
           · rw [if_neg hk] at a; clear hk
             by_cases hk:r.getD 0 []=j0
             · rw [if_pos hk] at a; cases a; exact ⟨_,by rw [hk]; rfl,ri,M0 B H F rows ln seen r c ar cr w i q E hw G C A hk⟩
             · rw [if_neg hk] at a; clear hk
               by_cases hk:r.getD 0 []=jK
               · rw [if_pos hk] at a; cases a; exact ⟨_,by rw [hk]; rfl,ri,M3 B H F rows ln seen r c ar cr w i q E hw G C A hk⟩
               · rw [if_neg hk] at a; clear hk
                 by_cases hk:r.getD 0 []=jn
                 · rw [if_pos hk] at a; cases a; exact ⟨_,by rw [hk]; rfl,ri,M2 B H F rows ln seen r c ar cr w i q E hw G C A hk⟩
                 · rw [if_neg hk] at a; clear hk
                   by_cases hk:r.getD 0 []=iX
                   · rw [if_pos hk] at a; cases a; exact ⟨_,by rw [hk]; rfl,ri,M5 B H F rows ln seen r c ar cr w i q E hw G C A hk⟩
                   · rw [if_neg hk] at a; clear hk
                     by_cases hk:r.getD 0 []=iP
                     · rw [if_pos hk] at a; cases a; exact ⟨_,by rw [hk]; rfl,HZ,Nb B H F rows ln seen r c ar cr w i q E hw G C A hk⟩
                     · rw [if_neg hk] at a; clear hk
                       by_cases hk:r.getD 0 []=iu
                       · rw [if_pos hk] at a; cases a; exact ⟨_,by rw [hk]; rfl,HY,M9 B H F rows ln seen r c ar cr w i q E hw G C A hk⟩
                       · rw [if_neg hk] at a; clear hk
                         by_cases hk:r.getD 0 []=ib
                         · rw [if_pos hk] at a; cases a; exact ⟨_,by rw [hk]; rfl,HX,M1 B H F rows ln seen r c ar cr w i q E hw G C A hk⟩
                         · rw [if_neg hk] at a; clear hk
                           cases a
theorem CN {s:Tx} (a:fP s=none):width s=0:=by
 unfold fP at a
 by_cases U:s=db
 · rw [if_pos U] at a; cases a
 · rw [if_neg U] at a
   by_cases J:s=ic
   · rw [if_pos J] at a; cases a
   · rw [if_neg J] at a
     by_cases c:s=hZ
     · rw [if_pos c] at a; cases a
     · rw [if_neg c] at a
       by_cases M:s=iO
       · rw [if_pos M] at a; cases a
       · rw [if_neg M] at a
         by_cases E:s=kP
         · rw [if_pos E] at a; cases a
         · rw [if_neg E] at a
           by_cases I:s=kr
           · rw [if_pos I] at a; cases a
           · rw [if_neg I] at a
             by_cases i:s=j0
             · rw [if_pos i] at a; cases a
             · rw [if_neg i] at a
               by_cases C:s=jK
               · rw [if_pos C] at a; cases a
               · rw [if_neg C] at a
                 by_cases A:s=jn
                 · rw [if_pos A] at a; cases a
                 · rw [if_neg A] at a
                   by_cases G:s=iX
                   · rw [if_pos G] at a; cases a
                   · rw [if_neg G] at a
                     by_cases V:s=iP
                     · rw [if_pos V] at a; cases a
                     · rw [if_neg V] at a
                       by_cases O:s=iu
                       · rw [if_pos O] at a; cases a
                       · rw [if_neg O] at a
                         by_cases q:s=ib
                         · rw [if_pos q] at a; cases a
                         · rw [if_neg q] at a
                           unfold width fC; simp [q,O,V,G,A,C,i,I,E,M,c,J,U]
theorem xW (s:Tx):fP s=none∨∃ (wd f:Nat),fP s=some (bq #[.int .i64 (wd:Nat),.func (.func f) #[] #[]])∧width s=wd∧wd≠0:=by
 by_cases a:s=db
 · exact .inr ⟨4,135,by unfold fP; rw [if_pos a],by rw [a]; decide,aw⟩
 by_cases c:s=ic
 · exact .inr ⟨4,135,by unfold fP; rw [if_neg a,if_pos c],by rw [c]; decide,aw⟩
 by_cases i:s=hZ
 · exact .inr ⟨2,134,by unfold fP; rw [if_neg a,if_neg c,if_pos i],by rw [i]; decide,aw⟩
 by_cases q:s=iO
 · exact .inr ⟨2,133,by unfold fP; rw [if_neg a,if_neg c,if_neg i,if_pos q],by rw [q]; decide,aw⟩
 by_cases A:s=kP
 · exact .inr ⟨2,132,by unfold fP; rw [if_neg a,if_neg c,if_neg i,if_neg q,if_pos A],by rw [A]; decide,aw⟩
 by_cases C:s=kr
 · exact .inr ⟨2,131,by unfold fP; rw [if_neg a,if_neg c,if_neg i,if_neg q,if_neg A,if_pos C],by rw [C]; decide,aw⟩
 by_cases E:s=j0
 · exact .inr ⟨2,131,by unfold fP; rw [if_neg a,if_neg c,if_neg i,if_neg q,if_neg A,if_neg C,if_pos E],by rw [E]; decide,aw⟩
 by_cases G:s=jK
 · exact .inr ⟨2,131,by unfold fP; rw [if_neg a,if_neg c,if_neg i,if_neg q,if_neg A,if_neg C,if_neg E,if_pos G],by rw [G]; decide,aw⟩
 by_cases I:s=jn
 · exact .inr ⟨2,131,by unfold fP; rw [if_neg a,if_neg c,if_neg i,if_neg q,if_neg A,if_neg C,if_neg E,if_neg G,if_pos I],by rw [I]; decide,aw⟩
 by_cases J:s=iX
 · exact .inr ⟨2,131,by unfold fP; rw [if_neg a,if_neg c,if_neg i,if_neg q,if_neg A,if_neg C,if_neg E,if_neg G,if_neg I,if_pos J],by rw [J]; decide,aw⟩
 by_cases M:s=iP
 · exact .inr ⟨2,130,by unfold fP; rw [if_neg a,if_neg c,if_neg i,if_neg q,if_neg A,if_neg C,if_neg E,if_neg G,if_neg I,if_neg J,if_pos M],by rw [M]; decide,aw⟩
 by_cases O:s=iu
 · exact .inr ⟨2,129,by unfold fP; rw [if_neg a,if_neg c,if_neg i,if_neg q,if_neg A,if_neg C,if_neg E,if_neg G,if_neg I,if_neg J,if_neg M,if_pos O],by rw [O]; decide,aw⟩
 by_cases U:s=ib
 · exact .inr ⟨2,128,by unfold fP; rw [if_neg a,if_neg c,if_neg i,if_neg q,if_neg A,if_neg C,if_neg E,if_neg G,if_neg I,if_neg J,if_neg M,if_neg O,if_pos U],by rw [U]; decide,aw⟩
 refine .inl ?_
 unfold fP
 rw [if_neg a,if_neg c,if_neg i,if_neg q,if_neg A,if_neg C,if_neg E,if_neg G,if_neg I,if_neg J,if_neg M,if_neg O,if_neg U]
end Go.Hb
namespace Go.Hb.s6
theorem MS {α:Type} {l:List α} {i:Nat} {d:α} (h:i < l.length):l.getD i d∈l:=by
 rw [cX,cj h]; exact List.getElem_mem h
def iy (n:Nat) (a:List (List UInt8)):List (Nat×List UInt8):=(a.zipIdx n).map fun q=>(q.2,q.1)
theorem O3 (n:Nat) (l:List UInt8) (a:List (List UInt8)):iy n (l::a)=(n,l)::iy (n+1) a:=by simp [iy,List.zipIdx_cons]
theorem O4 (n:Nat):iy n []= []:=rfl
theorem yo (n:Nat) (a:List (List UInt8)):(iy n a).map lM=a:=by
 unfold iy; rw [List.map_map]; exact List.zipIdx_map_fst n a
theorem DI (n:Nat) (a:List (List UInt8)):(iy n a).length=a.length:=by simp [iy]
def tK (x:Nat×List UInt8):Array Value:= #[.int .i64 x.1,str x.2]
theorem ym {a:List (List UInt8)} {n:Nat} {pre:List (Nat×List UInt8)} {x:Nat×List UInt8} {rest:List (Nat×List UInt8)} (h:iy n a=pre++x::rest):pre.length < a.length∧x.1=n+pre.length∧a=pre.map lM++x.2::rest.map lM:=by
 have h1:=congrArg k3 h
 rw [DI,bJ,bV] at h1
 have h2:=congrArg (List.map lM) h
 rw [yo,iJ,nD] at h2
 refine ⟨ab,?_,h2⟩
 have h3:=congrArg (fun l=>l[pre.length]?) h
 simp only [iy,gu,List.getElem?_zipIdx,me (cw _),Nat.sub_self,vz] at h3
 cases h4:a[pre.length]? with
 | none=>rw [h4] at h3; cases h3
 | some q=>rw [h4] at h3; cases h3; rfl
theorem ry (s:List UInt8) (w:World):
 bd ao 126 (a7 [str s]) w (fun v w'=> ∃ b,v= .func (.func 189) #[] #[aW b]∧w.heap.size≤b∧w'.heap[b]? =some (.cells [str s].toArray 9 (0,0))∧Wk w w'):=by
 exact enter func126 aa ntmps126 aa<|ak fun a=>e<|q9 aa aa fun i E C A q=>ay<|a<|ak fun c=>p Ds<|ay<|c<|rt<|ba aa<|⟨i,aa,ab,q,A.md⟩
theorem xh (s:List UInt8) (b:Nat) (hs:s.length≤65536) (l:Nat) (a:List (Nat×List UInt8)→World→Prop) (w:World) (J:a [] w) (aD:∀ pre W,a pre W→W.heap[b]? =some (.cells [str s].toArray 9 (0,0))) (bM:∀ pre i G,a pre i→Wk i G→a pre G) (aJ:∀ pre x rest i,(iy 1<|cV s)=pre++x::rest→a pre i→YieldAt Fence.wide 0 ao l (tK x) i fun e W'=>e= .returned (.bool true)∧a (pre++ [x]) W'):
 bd ao 189 (a7 [.func (.yield l) #[] #[],aW b]) w (fun v w'=>a (iy 1<|cV s) w'):=by
 have O:=aD _ _ J
 refine enter func189 aa ntmps189 aa<|az fun V=>ak fun Z=>p (ld cO aa<|(aY O).trans aa)<|p (dv u9 aa aa)<|p (gt aa aa)<|nl<|Z<|cd aa (fun h=>absurd h ab) fun aL=> ?_
 refine aO<|V<|ak fun ac=>p (ld cO aa<|(aY O).trans aa)<|e<|cl A7 (EM s Dm _ ab aw) aa fun v12 aS ar=> ?_
 obtain ⟨rfl,am⟩:=ar
 refine ay<|ac<|ak fun ad=>ay<|ad<|aB<|lp (fun I A E=> ∃ (r:List UInt8) (pre:List (Nat×List UInt8)),(r.length≤s.length)∧((iy 1<|cV s)=pre++iy (pre.length+1) (eL [] r))∧(a pre E)∧(pre.length≤s.length)∧(A 0= .func (.yield l) #[] #[])∧(A 3=str r)∧(A 4=aj (pre.length+1))∧(r.length=I)) _ ⟨uS s,[],(y2 s),aa,(bM _ _ _ J am),(Nat.zero_le _),aa,aa,(iv<|by first | rfl | (rw [bJ]; rfl)),aa⟩ ?_
 rintro I A E ⟨r,pre,aP,U,M,aM,aF,aG,aI,rfl⟩
 refine fx 0 aF<|fx 3 aG<|fx 4 aI<|az fun ae=>ak fun ag=>au (str r)<|p (oV aa aa)<|nl<|ag<|cd aa (fun q=> ?_) fun q=> ?_
 have C:(iy 1<|cV s)=pre++(pre.length+1,iW (kK 10 r))::iy (pre.length+2) (eL []<|lS 10 r):=by rw [U,On q,O3]
 have aN:=KB (c:=10) q
 have aK:=Kx 10 r
 refine aO<|ae<|az fun ah=>aB<|ak fun ai=>au (str r)<|e<|cl Ic (KC r 10 _ ab) aa fun aQ aT av=> ?_
 obtain ⟨rfl,an⟩:=av
 refine p mv<|p (xt aa aa)<|p (xt aa aa)<|p (xt aa aa)<|p aA<|p aA<|p aA<|nl<|ai<|ak fun al=>p mv<|ay<|al<|az fun Y=> ?_
 refine P9 ?_
 refine py aa (aH (.func (.yield l) #[] #[]) aa)<|py aa (aH (aj<|pre.length+1) aa)<|py aa mv<|ey aa<|cl A6 (Ry (kK 10 r) _ ab) aa fun aR aU ax=> ?_
 obtain ⟨rfl,ap⟩:=ax
 have aq:=bM _ _ _ M<|Md.trans an ap
 refine Sd aa aa (aJ pre (pre.length+1,iW (kK 10 r)) _ _ C aq) fun aV aC=> ?_
 refine py aa (no aa)<|OX ?_
 refine Y<|cf (aa)<|aO<|bn<|ah<|rg aa<|au (aj<|pre.length+1)<|p (bI ((pre.length+2:Nat):Int) aa aa<|bf ab ab) ?_
 exact p aA<|nl<|tn<|⟨_,ab,lS 10 r,pre++ [(pre.length+1,iW (kK 10 r))],ab,(by rw [C,dK,bJ]; rfl),aC,(by have h1:=ym C; have h2:=oQ s; rw [bJ,iH]; omega),aa,aa,(iv<|by first | rfl | (rw [bJ]; rfl)),aa⟩
 refine ext<|bj<|bj<|be<|f0 aa ?_
 show a (iy 1<|cV s) E
 have aE:r= []:=Decidable.of_not_not q
 rw [U,aE,Dk,O4,eb]
 exact M
theorem tJ (s:List UInt8) (b:Nat) (hs:s.length≤65536):zX ao 189 #[.pointer (some ⟨b,0,none⟩)] tK (iy 1<|cV s) (fun W=>W.heap[b]? =some (.cells [str s].toArray 9 (0,0))):=
 fun l a W c i bM A=>jQ (xh s b hs l a W c i bM A) fun e w' ⟨v,he,q⟩=>⟨⟨v,he⟩,q⟩
theorem Eu (s:List UInt8) (w:World) (hs:s.length≤1048576):
 bd ao 81 (a7 [str s]) w (fun v w'=>(∃ a,v= .tuple #[a,.int .i64 (if 65536 < s.length then 10 else 0)]∧(if 65536 < s.length then a= .slice none 0 0 else bp w' w.heap.size 9 1 (a) (cV s).length ((cV s).map str)))∧Wk w w'):=by
 refine tM [] func81 aa ntmps81 aa ?_
 refine dI<|dY<|rg aa<|p aA<|p aA<|nl<|dE<|dI<|dI<|dY<|rg aa<|p (aH (str s) aa)<|p (dv u9 aa aa)<|p (gt aa aa)<|nl<|dE<|dY<|cd aa (fun aG=> ?_) fun aG=> ?_
 refine sq fun aN ay=>rg aa<|p aA<|p aA<|nl<|tn<|ay _ _<|rt<|prt<|BR aa aa aa ?_
 have G:65536 < s.length:=ab
 exact ⟨⟨.slice none 0 0,by show jc #[.slice none 0 0,.int .i64 10]=_; rw [if_pos G],by rw [if_pos G]⟩,Md.refl _ _⟩
 refine aO<|dE<|dI<|dY<|rg aa<|e<|gx Sn fun ak aL aT az am=>nl<|dE<|dI<|dI<|dY<|rg aa<|p (aH (str s) aa)<|e<|cl Ay (ry s _) aa fun v11 aj aC=> ?_
 obtain ⟨Y,rfl,aR,al,an⟩:=aC
 have I:Wk w aj:=Md.trans az.md an
 have aD:=an.aB am
 have aS:=(cy.1 al).1
 have a0:ak < aL.heap.size:=(cy.1 am).1
 have G:s.length≤65536:=ab
 refine nl<|dE ?_
 apply D8 (tK) (iy 1<|cV s) (fun W=>W.heap[Y]? =some (.cells [str s].toArray 9 (0,0))) (fun pre E=> ∃ v,E.heap[ak]? =some (.cells [v].toArray 87 (0,0))∧bp E aj.heap.size 9 1 v pre.length ((pre.map lM).map str)∧E.heap[Y]? =some (.cells [str s].toArray 9 (0,0))∧aj.heap.size≤E.heap.size∧Wk w E) rfl AH (fun _=>rfl) (tJ s Y G) (⟨.slice none 0 0,aD,dJ _ _ _ _,al,cw _,I⟩) (fun _ _ ⟨_,_,_,h,_⟩=>h) (fun pre A C F ⟨v,h1,h2,h3,h5,h4⟩ hm U=>⟨v,uJ h1 hm U,Ex h2 hm U,uJ h3 hm U,e9 h5 hm.size,Ey h4 hm I.size U⟩)
 intro l x E K J
 exact rg aa<|p (bZ (str x.2) aa)<|nl<|tn<|J
 intro l pre x rest E aI ac
 obtain ⟨v,V,q,ag,ai,Z⟩:=ac
 obtain ⟨aZ,a2,a3⟩:=ym aI
 have aV:=oQ s
 have a1:=(cy.1 ag).1
 refine aB<|rg aa<|p (ld oB aa<|(aY V).trans aa)<|p mv<|e<|lf ka aa aa fun aP aK ad i aq=> ?_
 have au:Wk w aK:=Md.trans Z i.md
 have ad:=i.md.aB V
 refine e<|ap ka (aX q i.md) aa (e9 ai i.md.size) aa (aE.fA aq) (aa) (aa) ab ab fun aJ a5 ah M a4 aU=> ?_
 have av:=Wk.own au (aX q i.md) M I.size
 have aF:=M.aB (i.md.aB ag) fun h=>by have :=dd (aX q i.md) h; omega
 have ae:=M.aB ad fun h=>c8 (aX q i.md) ad aw h
 refine e<|dF KL aa aa (ej ah) ae (by simp) fun aM O ar=> ?_
 have ax:Wk w aM:=Md.trans' av O fun k hk h=>by omega
 exact nl<|bn<|⟨(eu.wk i.md).trans ((eu.md M<|kR<|aX q i.md).trans<|eu.md O fun k hk=>⟨_,_,_,hk ▸ ae⟩),aJ,ar,cx (by rw [iJ,iJ,bJ]; exact ah) O (fun k hk h=>c8 ah ae aw<|h ▸ hk),O.aB aF (fun h=>by omega),e9 ai (e9 i.md.size<|e9 M.size O.size),ax⟩
 intro D E aQ ac J
 obtain ⟨v,V,q,ag,ai,Z⟩:=ac
 have aW:=(cy.1 J).1
 refine dE<|dI<|dY<|rg aa<|p (ld oB aa<|(aY V).trans aa)<|p aA<|p aA<|nl<|dE<|oY<|BS aa aa aa J ?_
 have G:¬65536 < s.length:=ab
 rw [yo,DI] at q
 exact ⟨⟨v,by show jc #[v,.int .i64 0]=_; rw [if_neg G],by rw [if_neg G]; exact eS (cx q (jL _ _ _) fun k hk h=>by obtain ⟨c,e,z,h1⟩:=kR q k hk; rw [h,J] at h1; cases h1) I.size⟩,Md.trans' Z (jL _ _ _) fun k hk h=>by have :=I.size; omega⟩
end Go.Hb.s6
section
namespace Go.Hb
open Go.Hb.s6
set_option maxHeartbeats 1000000 in
theorem Ed (s:List UInt8) (w:World) (hs:s.length≤1048576):
 bd ao 80 (a7 [str s]) w (fun v w'=>(∃ a,v= .tuple #[a,.int .i64 (if 65536 < s.length then 10 else 0)]∧(if 65536 < s.length then a= .slice none 0 0 else ∃ vs,bp w' w.heap.size 209 2 a (et s).length (kU vs)∧gv w' w.heap.size 9 vs (et s)))∧Wk w w'):=by
 refine tM [] func80 aa ntmps80 aa ?_
 refine dI<|dY<|rg aa<|p aA<|p aA<|nl<|dE<|dI<|dI<|dY<|rg aa<|p (aH (str s) aa)<|p (dv u9 aa aa)<|p (gt aa aa)<|nl<|dE<|dY<|cd aa (fun bz=> ?_) fun bz=> ?_
 refine sq fun aN ah=>rg aa<|p aA<|p aA<|nl<|tn<|ah _ _<|rt<|prt<|BR aa aa aa ?_
 have U:65536 < s.length:=ab
 exact ⟨⟨.slice none 0 0,by show jc #[.slice none 0 0,.int .i64 10]=_; rw [if_pos U],by rw [if_pos U]⟩,Md.refl _ _⟩
 refine aO<|dE<|dI<|dY<|rg aa<|e<|gx Sh fun am b0 cb bs aR=>nl<|dE<|dI<|dI<|dY<|rg aa<|p (aH (str s) aa)<|e<|cl Ay (ry s _) aa fun co au bt=> ?_
 obtain ⟨ay,rfl,b9,aQ,aT⟩:=bt
 have Z:Wk w au:=Md.trans bs.md aT
 have cj:am < b0.heap.size:=(cy.1 aR).1
 have bv:=aT.aB aR
 have ca:=(cy.1 aQ).1
 have U:s.length≤65536:=ab
 refine nl<|dE ?_
 apply D8 (tK) (iy 1<|cV s) (fun W=>W.heap[ay]? =some (.cells [str s].toArray 9 (0,0))) (fun pre J=> ∃ v vs,J.heap[am]? =some (.cells [v].toArray 187 (0,0))∧bp J au.heap.size 209 2 v (kt 1<|pre.map lM).length (kU vs)∧gv J au.heap.size 9 vs (kt 1<|pre.map lM)∧J.heap[ay]? =some (.cells [str s].toArray 9 (0,0))∧au.heap.size≤J.heap.size∧Wk w J) rfl AH (fun _=>rfl) (tJ s ay U) (⟨.slice none 0 0,[],bv,dJ _ _ _ _,gv.nil _ _ _,aQ,cw _,Z⟩) (fun _ _ ⟨_,_,_,_,_,h,_⟩=>h) (fun pre A C F ⟨v,vs,h1,h2,ba,h3,h5,h4⟩ hm ag=>⟨v,vs,uJ h1 hm ag,Ex h2 hm ag,ba.md hm (fun k hk cur z=>(ag k hk).2 cur _ z),uJ h3 hm ag,e9 h5 hm.size,Ey h4 hm Z.size ag⟩)
 intro l x J K ac
 exact sq fun aN ah=>rg aa<|p (bZ (.int .i64 x.1) aa)<|nl<|tn<|ah _ _<|rg aa<|p (bZ (str x.2) aa)<|nl<|tn<|ac
 intro l pre x rest J bV aD
 obtain ⟨v,vs,aK,ak,aq,aJ,ar,aC⟩:=aD
 obtain ⟨ci,bW,bX⟩:=ym bV
 have cf:=oQ s
 have ck:=(cy.1 aJ).1
 have cm:x.2.length≤s.length:=Df<|by rw [bX]; simp
 have ce:=xD x.2 []
 have bG:=Ea (pre.map lM) 1
 rw [eX] at bG
 refine aB<|sq fun aN ah=>rg aa<|p mv<|e<|cl HW (L1 x.2 _ ab) aa fun cq a3 bu=> ?_
 obtain ⟨aj,bg⟩:=bu
 obtain ⟨E,an,rfl⟩:=cU aj
 have aU:=(aV aj).2
 have bA:=(aV aj).1
 refine p aA<|nl<|tn<|ah _ _ ?_
 refine eD (fun ax av=> ∃ (n cp:Nat),(n≤(du [] x.2).length)∧(n≤cp)∧(nj (du [] x.2)=(du [] x.2).take n)∧(Wk a3 av)∧(ax 4= .pointer (some ⟨am,0,none⟩))∧(ax 5= .int .i64 x.1)∧(ax 7= .slice E n cp)) ?_ ?_
 refine sq fun a8 aF=>rg aa<|p mv<|p (bO gU aa aa)<|p mv<|nl<|tn<|aF _ _<|aB<|lp (fun aP Y a5=> ∃ (i:Nat),(i≤(du [] x.2).length)∧(∀ q,q < i→uq ((du [] x.2).getD q [])=false)∧(Wk a3 a5)∧(Y 4= .pointer (some ⟨am,0,none⟩))∧(Y 5= .int .i64 x.1)∧(Y 7= .slice E (du [] x.2).length an)∧(Y 19= .slice E (du [] x.2).length an)∧(Y 20= .int .i64 (du [] x.2).length)∧(Y 21= .int .i64 i)∧((du [] x.2).length - i=aP)) _ ⟨0,ab,(fun q bF=>by omega),(Md.refl _ _),aa,aa,aa,aa,aa,aa,aa⟩ ?_
 rintro aP Y a5 ⟨i,hi,aM,ae,bS,bT,bU,bN,bP,bQ,rfl⟩
 refine fx 4 bS<|fx 5 bT<|fx 7 bU<|fx 19 bN<|fx 20 bP<|fx 21 bQ<|sq fun b2 bk=>rg aa<|p (lt aa aa)<|nl<|tn<|bk _ _<|sq fun b3 bl=>cd aa (fun bB=> ?_) fun bB=> ?_
 refine aO<|tn<|bl _ _<|sq fun b4 bm=>aB<|sq fun b5 bo=>rg aa<|p (aH (.int .i64 i) aa)<|p (a6 dN aa aa ab<|aE.ok (aU.wk ae)<|cY ab)<|p (ld cO aa<|da.get (i:=i) (aU.wk ae) ab)<|p (bZ (.int .i64 i) aa)<|p aA<|nl<|tn<|bo _ _<|sq fun b6 bq=>rg aa<|p mv<|p (lW 0 u9 aa aa<|mW.2 (Cj _ _ _<|MS ab).1)<|p (bR aa aa)<|nl<|tn<|bq _ _<|cd aa (fun bC=> ?_) fun bC=> ?_
 exact sq fun b7 br=>rg aa<|p (aH (.slice E (du [] x.2).length an) aa)<|p (aH (.int .i64 i) aa)<|p (aH (.int .i64 i) aa)<|p (Jz dN aa aa aa ab)<|p aA<|nl<|tn<|br _ _<|ext<|la aw<|te _<|te _<|be<|tn<|⟨i,i,hi,(cw _),(C2 hi aM<|.inr<|decide_eq_true ab),ae,aa,aa,aa⟩
 exact aO<|bn<|tn<|bm _ _<|rg aa<|p (ad aa aa<|cg ab)<|p mv<|nl<|tn<|⟨_,ab,i+1,ab,(fun q bF=>by rcases gI q i with h | h <;> first | exact aM q h | (rw [show q=i by omega]; exact decide_eq_false ab)),ae,aa,aa,aa,aa,aa,aa,aa⟩
 exact ext<|te _<|te _<|be<|tn<|⟨(du [] x.2).length,an,(cw _),bA,(by have h:=C2 hi aM (.inl ab); rwa [show i=(du [] x.2).length from by omega] at h),ae,aa,aa,aa⟩
 rintro ax av ⟨n,cp,hn,bE,aZ,az,bK,bL,bM⟩
 refine fx 4 bK<|fx 5 bL<|fx 7 bM ?_
 have G:Wk J av:=Md.trans bg az
 have aI:=G.aB aK
 have a1:=aX ak G
 have a2:=aq.wk G
 have aW:=G.aB aJ
 have aS:Wk w av:=Md.trans aC G
 refine sq fun a8 aF=>rg aa<|p (aH (.slice E n cp) aa)<|p (bO gU aa aa)<|p (gt aa aa)<|nl<|tn<|aF _ _<|cd aa (fun bD=> ?_) fun bD=> ?_
 have al:nV x.2 (1 +pre.length)= [(x.1,(du [] x.2).take n)]:=by unfold nV; rw [aZ,if_neg (fun h=>by have h:=congrArg k3 h; rw [ec,fV] at h; omega),← bW]
 refine rg aa<|p (ld pH aa<|(aY aI).trans aa)<|p (aH (.int .i64 x.1) aa)<|p (aH (.slice E n cp) aa)<|p (cT (ps:= [(0,.int .i64 x.1),(1,.slice E n cp)]) (L:= [.int .i64 x.1,.slice E n cp]) Q0 aa<|aa)<|e<|mu Es aa aa aa fun a9 a4 aG I bb=> ?_
 have bc:bw a4.heap a9 [.int .i64 x.1,.slice E n cp]:=bb
 have bh:Wk w a4:=Md.trans aS I.md
 have V:=aX a1 I.md
 have aG:=I.md.aB aI
 refine e<|ap Es (V) aa (by have :=I.size; have :=G.size; omega) aa (aE.fA bc) (aa) (aa) ab ab fun bY cr aL M cn cc=> ?_
 have bi:=Wk.own bh V M Z.size
 have bx:=M.aB (I.md.aB aW) fun h=>by have :=dd V h; omega
 have ai:=M.aB aG fun h=>c8 V aG aw h
 have bH:=(a2.wk I.md).md M<|iQ V aw
 have a0:=cx (aX (aX aj az) I.md) M fun k hk=>mJ (aX (aX aj az) I.md) V aw hk
 refine e<|dF Bo aa aa (ej aL) ai (by simp) fun b1 O bf=> ?_
 have bj:Wk w b1:=Md.trans' bi O fun k hk h=>by omega
 have bI:=(bH.md O<|gz ai aw).snoc (n:=x.1) (r:=(du [] x.2).take n) (v:= .slice E n cp)<|by rw [ec,Nat.min_eq_left hn,List.map_take]; exact (Tg.j8<|eS (cx a0 O fun k hk h=>c8 a0 ai aw<|h ▸ hk) ar).clip bE
 exact nl<|bn<|⟨(eu.wk G).trans ((eu.wk I.md).trans<|(eu.md M<|kR V).trans<|eu.md O fun k hk=>⟨_,_,_,hk ▸ ai⟩),bY,vs++ [(x.1,.slice E n cp)],bf,(by rw [iJ,show [x].map lM= [x.2] from aa,ur,eX,al]; rw [bJ,Qo]; exact cx aL O fun k hk h=>c8 aL ai aw<|h ▸ hk),(by rw [iJ,show [x].map lM= [x.2] from aa,ur,eX,al]; exact bI),O.aB bx (fun h=>by omega),e9 ar (e9 G.size<|e9 I.md.size<|e9 M.size O.size),bj⟩
 have al:nV x.2 (1 +pre.length)= []:=by unfold nV; rw [aZ,if_pos (by rw [show n=0 by omega]; rfl)]
 exact aO<|bn<|⟨eu.wk G,v,vs,aI,(by rw [iJ,show [x].map lM= [x.2] from aa,ur,eX,al]; rw [eb]; exact a1),(by rw [iJ,show [x].map lM= [x.2] from aa,ur,eX,al]; rw [eb]; exact a2),aW,e9 ar G.size,aS⟩
 intro D J b8 aD ac
 obtain ⟨v,vs,aK,ak,aq,aJ,ar,aC⟩:=aD
 have ch:=(cy.1 ac).1
 refine dE<|dI<|dY<|rg aa<|p (ld pH aa<|(aY aK).trans aa)<|p aA<|p aA<|nl<|dE<|oY<|BS aa aa aa ac ?_
 have U:¬65536 < s.length:=ab
 rw [yo] at ak aq
 exact ⟨⟨v,by show jc #[v,.int .i64 0]=_; rw [if_neg U],by rw [if_neg U]; exact ⟨vs,eS (cx ak (jL _ _ _) fun k hk h=>by obtain ⟨c,e,z,h1⟩:=kR ak k hk; rw [h,ac] at h1; cases h1) Z.size,(aq.md (jL _ _ _) fun k hk cur z=>by rw [hk,ac]; simp).mono Z.size⟩⟩,Md.trans' aC (jL _ _ _) fun k hk h=>by have :=Z.size; omega⟩
end Go.Hb
end
section
namespace Go.Hb.je
open Go.Hb.s6
theorem rS {eof ln:Nat} {F F':aG} {hs:List Tx} {rows rows':List Rw} {row:List Tx} (a:bS eof F hs rows ln row= .ok (F',rows')):rows'.length≤rows.length:=by
 unfold bS at a
 repeat' split at a
 · unfold js at a; split at a; cases a; cases a; exact cw _
 · unfold j5 at a; repeat' split at a
   all_goals first | (cases a; done) | (cases a; exact cw _)
 · unfold l0 at a; split at a; cases a; cases a; exact cw _
 · unfold l1 at a; split at a; cases a; cases a; exact cw _
 · unfold j6 at a; repeat' split at a
   all_goals first | (cases a; done) | (cases a; exact cw _)
 · unfold j9 at a; repeat' split at a
   all_goals first | (cases a; done) | (cases a; exact (ub _ _ _<|by assumption).1)
 · unfold jG at a; repeat' split at a
   all_goals first | (cases a; done) | (cases a; exact (ub _ _ _<|by assumption).1)
 · unfold gA at a; repeat' split at a
   all_goals first | (cases a; done) | (cases a; exact (ub _ _ _<|by assumption).1)
theorem D7 {eof k:Nat} {F:aG} {hs:List Tx} :ga eof k F hs []= .ok F:=by cases k <;> simp [ga]
section
variable {eof k n:Nat} {F:aG} {hs:List Tx} {r:List Tx} {rest:List Rw} {T:Except (Nat×Nat) aG} (h:ga eof k F hs ((n,r)::rest)=T) (hk:rest.length+1≤k)
include h hk
theorem PR (a:width (r.getD 0 [])=0):T= .error (n,110):=by
 obtain ⟨m,rfl⟩:∃ m,k=m+1:=⟨k - 1,ab⟩
 rw [← h,ga,if_pos a]
theorem PS (a:width (r.getD 0 [])≠0) (h1:r.length≠width (r.getD 0 [])):T= .error (n,111):=by
 obtain ⟨m,rfl⟩:∃ m,k=m+1:=⟨k - 1,ab⟩
 rw [← h,ga,if_neg a,if_pos h1]
theorem D4 (a:width (r.getD 0 [])≠0) (h1:r.length=width (r.getD 0 [])) (h2:width (r.getD 0 [])≠4) (h3:r.getD 0 []∈hs):T= .error (n,112):=by
 obtain ⟨m,rfl⟩:∃ m,k=m+1:=⟨k - 1,ab⟩
 have hw:width (r.getD 0 [])=2:=by
  unfold width at a h2 ⊢
  split
  · rfl
  · rename_i hn
    rw [if_neg hn] at a h2
    split at h2
    · exact absurd aa h2
    · rename_i c; rw [if_neg c] at a; exact absurd rfl a
 rw [← h,ga,if_neg a,if_neg (fun h4=>h4 h1),if_pos ⟨hw,h3⟩]
theorem D5 {e:Nat×Nat} (a:width (r.getD 0 [])≠0) (h1:r.length=width (r.getD 0 [])) (h2:width (r.getD 0 [])=2→r.getD 0 []∉hs) (h3:bS eof F hs rest n r= .error e):T= .error e:=by
 obtain ⟨m,rfl⟩:∃ m,k=m+1:=⟨k - 1,ab⟩
 rw [← h,ga,if_neg a,if_neg (fun h4=>h4 h1),if_neg (fun h4=>h2 h4.1 h4.2),h3]
theorem D6 {F':aG} {rows':List Rw} (a:width (r.getD 0 [])≠0) (h1:r.length=width (r.getD 0 [])) (h2:width (r.getD 0 [])=2→r.getD 0 []∉hs) (h3:bS eof F hs rest n r= .ok (F',rows')):ga eof (k - 1) F' (hs++ [r.getD 0 []]) rows'=T∧rows'.length≤k - 1:=by
 obtain ⟨m,rfl⟩:∃ m,k=m+1:=⟨k - 1,ab⟩
 refine ⟨?_,by have :=rS h3; omega⟩
 rw [← h,ga,if_neg a,if_neg (fun h4=>h4 h1),if_neg (fun h4=>h2 h4.1 h4.2),h3]; rfl
end
theorem G7 {s:Tx} (h:65536 < s.length):fu s= .error (0,10):=by unfold fu; rw [if_pos h]
theorem pF {s:Tx} {e:Nat×Nat} (h:¬65536 < s.length) (h1:ga ((cV s).length+1) (et s).length gO [] (et s)= .error e):fu s= .error e:=by unfold fu; rw [if_neg h,h1]
theorem G6 {s:Tx} {F:aG} {q:cG} (h:¬65536 < s.length) (h1:ga ((cV s).length+1) (et s).length gO [] (et s)= .ok F) (h2:F.rules.find? (mq F)=some q):fu s= .error (q.line,118):=by unfold fu; rw [if_neg h,h1]; simp only; rw [h2]
theorem G8 {s:Tx} {F:aG} (h:¬65536 < s.length) (h1:ga ((cV s).length+1) (et s).length gO [] (et s)= .ok F) (h2:F.rules.find? (mq F)=none):fu s= .ok F:=by unfold fu; rw [if_neg h,h1]; simp only; rw [h2]
def nT (s:Tx):Value:=match fP s with | some (.agg cs)=>cs.getD 1 .nilFunc | _=> .nilFunc
theorem Nd (s:Tx):(fP s).getD (.agg #[.int .i64 0,.nilFunc])= .agg [.int .i64 (width s:Nat),nT s].toArray∧(fP s).isSome=decide (width s≠0):=by
 rcases xW s with h | ⟨wd,f,h,hw,a⟩
 · have a:=CN h
   unfold nT
   rw [h,a]; exact ⟨rfl,rfl⟩
 · unfold nT
   rw [h,hw,decide_eq_true a]; exact ⟨rfl,rfl⟩
theorem Nj (s:Tx):[gG .i64 (width s:Nat),nT s].all eW=true :=by
 rcases xW s with h | ⟨wd,f,h,hw,a⟩ <;> unfold nT <;> rw [h] <;> rfl
theorem CM {s:Tx} (h:width s≠0):∃ v,fP s=some v∧∀ (wd:Nat) (f:Nat),v= .agg [.int .i64 (wd:Nat),.func (.func f) #[] #[]].toArray→nT s= .func (.func f) #[] #[]:=by
 rcases xW s with h1 | ⟨wd,f,h1,hw,c⟩
 · exact absurd (CN h1) h
 · refine ⟨_,h1,fun i a he=> ?_⟩
   unfold nT
   rw [h1,he]; rfl
theorem Ej {f:Value→Option Value} {seen:List Tx} (k:Tx) (a:∀ s:Tx,(f<|str s).getD (.int .i64 0)= .int .i64 (seen.count s:Nat)) (s:Tx):(bD f (str k) (.int .i64 (seen.count k+1:Nat))<|str s).getD (.int .i64 0)= .int .i64 ((seen++ [k]).count s:Nat):=by
 rw [List.count_append]
 by_cases h:s=k
 · subst h; rw [r7]; simp
 · rw [qh (fun h2=>h<|str_inj.1 h2),a s,List.count_singleton,show (k==s)=false from by simpa using fun h2=>h h2.symm]; rfl
theorem bW.Ei {w w':World} {B:Nat} {H:bT} {F:aG} {R:fG} {rows:List Rw} {ln:Nat} {seen i:List Tx} {f:Value→Option Value} (h:bW w B H F R rows ln seen) (hm:Md (fun k=>k=H.ms) w w') (q:bU w'.heap H.ms gD f) (hd:∀ s:Tx,(f<|str s).getD (.int .i64 0)= .int .i64 (i.count s:Nat)):bW w' B H F R rows ln i:=by
 obtain ⟨g,C,E⟩:=h.tm
 obtain ⟨f0,A,_⟩:=h.sm
 have a:TF w [1] (fun k=>k=H.ms):=TF.eq (dw A) aw
 exact ⟨hm.im a h.cells aw,h.rws.md hm (fun k hk cur z c=>a.no (dt c) aw hk),h.rt.md hm (fun k hk cur z c=>a.no (dt c) aw hk),⟨f,q,hd⟩,⟨g,C.md hm (fun h2=>h.ne.1 h2.symm),E⟩,cW h.on hm a aw,h.lo,h.ne⟩
theorem cK.ms {w w':World} {B:Nat} {H:bT} {F a:aG} {V:dQ} {R:fG} {rows:List Rw} {ln:Nat} {seen:List Tx} (h:cK w B H.fb H.mc a V) (c:bW w B H F R rows ln seen) (hm:Md (fun k=>k=H.ms) w w'):cK w' B H.fb H.mc a V:=by
 obtain ⟨g,i,_⟩:=c.sm
 exact h.md (L:= [1]) hm (TF.eq (dw i) aw) aw fun h=>c.ne.2.1 h.symm
theorem ed.ms {w w':World} {B:Nat} {H:bT} {F:aG} {R:fG} {rows:List Rw} {ln:Nat} {seen:List Tx} (a:bW w B H F R rows ln seen) (hm:Md (fun k=>k=H.ms) w w'):ed B H w w':=hm.mono fun k _ hk=>⟨hk ▸ a.lo.2.1,.inl hk⟩
structure m4 (w0 w:World) (H:bT) (b2 b3 bt:Nat):Prop where
 c2:w.heap[b2]? =some (.cells [.pointer none].toArray 60 (0,0))
 c3:w.heap[b3]? =some (.cells [.int .i64 0,.int .i64 0,.int .i64 0].toArray 47 (0,0))
 lo:w0.heap.size≤b2∧w0.heap.size≤b3∧b2≠b3
 tb:∃ f,bU w.heap bt gD f∧∀ s,f (str s)=fP s
 ne:bt≠H.ms∧bt≠H.mt∧bt≠H.mc
 wk:Wk w0 w
theorem m4.md {q w w':World} {H:bT} {a c i:Nat} (h:m4 q w H a c i) (hm:Wk w w'):m4 q w' H a c i:=by
 obtain ⟨f,A,C⟩:=h.tb
 exact ⟨Wk.aB hm h.c2,Wk.aB hm h.c3,h.lo,⟨f,A.wk hm,C⟩,h.ne,h.wk.trans hm⟩
theorem m4.mw {a w w':World} {H:bT} {c i q:Nat} {F:aG} {R:fG} {V:dQ} {rows:List Rw} {ln:Nat} {seen:List Tx} (h:m4 a w H c i q) (E:cK w a.heap.size H.fb H.mc F V) (A:bW w a.heap.size H F R rows ln seen) (hm:ed a.heap.size H w w'):m4 a w' H c i q:=by
 obtain ⟨f,C,I⟩:=h.tb
 obtain ⟨f1,G,_⟩:=A.sm
 obtain ⟨f2,J,_⟩:=A.tm
 obtain ⟨f3,M,_⟩:=E.cm
 have hn:=fun e (O:([197,127,130,72,133,79,5]:List Nat).contains (e+2)=false)=>Wr.ne (B:=a.heap.size) (dw G) (dw J) (dw M) O
 refine ⟨hm.aB h.c2 (fun hk=>hn 60 aw _ hk _ _ h.c2),hm.aB h.c3 (fun hk=>hn 47 aw _ hk _ _ h.c3),h.lo,⟨f,C.md hm ?_,I⟩,h.ne,hm.wk h.wk<|cw _⟩
 rintro ⟨_,h1 | h1 | h1 | h1⟩
 · exact h.ne.1 h1
 · exact h.ne.2.1 h1
 · exact h.ne.2.2 h1
 · rw [dw C] at h1; exact absurd h1 aw
def GQ (w':World) (B:Nat) (F:aG) (v:Value):Prop := ∃ fb mc V,v= .tuple #[.pointer (some ⟨fb,0,none⟩),.agg [.int .i64 0,.int .i64 0,.int .i64 0].toArray]∧cK w' B fb mc F V∧(∃ seen,jg F [] seen)∧Nx F
def GP (e:Nat×Nat) (v:Value):Prop :=v= .tuple #[.pointer none,.agg [.int .i64 1,.int .i64 (e.1:Nat),.int .i64 (e.2:Nat)].toArray]
def m6 (s:Tx) (w:World) (v:Value) (w':World):Prop :=(match fu s with | .ok F=>GQ w' w.heap.size F v | .error e=>GP e v)∧Wk w w'
theorem m6.no {s:Tx} {w w':World} {l e:Nat} (h:fu s= .error (l,e)) (hm:Wk w w'):m6 s w (.tuple #[.pointer none,.agg [.int .i64 1,.int .i64 (l:Nat),.int .i64 (e:Nat)].toArray]) w':=by
 unfold m6; rw [h]; exact ⟨rfl,hm⟩
theorem oX {n:Nat} {G:List Nat} {fn:Func} {σ:Nat→Value} {s:Tx} {w W:World} {H:bT} {c i q l e:Nat} (C:fn.results= #[.cell 2 60,.cell 3 47]) (A:3 < n) (E:σ 2= .pointer (some ⟨c,0,none⟩)) (I:σ 3= .pointer (some ⟨i,0,none⟩)) (a:m4 w W H c i q) (J:fu s= .error (l,e)):qb ⟨n,[{target:= .fn (.func 82) #[.pointer (some ⟨c,0,none⟩),.pointer (some ⟨i,0,none⟩)],args:= #[]}],G,none⟩ (nJ ao fn<|m6 s w) (.panic<|gB 47 l (e:Nat)) σ W:=
 PU C A E I ⟨_,a.c2⟩ ⟨_,rfl,a.c3⟩ a.lo.2.2 (fun w' hm=>m6.no J<|a.wk.trans' hm fun k hk h=>by rcases h with rfl | rfl; have :=a.lo.1; omega; have :=a.lo.2.1; omega)
theorem KQ {x:Nat} (h:x≠0):dS gO x=false :=by
 unfold dS gO dx
 simp [h]
theorem Wk.dr {w:World} :Wk w w.drew:=(Md.refl _ _).drew
theorem G5 (s:Tx) (w:World) (hs:s.length≤1048576):
 bd ao 45 (a7 [str s]) w (m6 s w):=by
 refine LD [2,3] func45 aa ntmps45 aa ?_
 refine dI<|dY<|rg aa<|e<|gx Sm fun aM fk eK cs cS=>e<|gx mR fun aN ep eN bt c1=> ?_
 have e1:=cs.size
 have e5:=bt.size
 have dd:Wk w ep:=cs.md.trans bt.md
 have d5:=Wk.aB bt.md cS
 refine nl<|dE<|dI<|dY<|rg aa<|p (aH (str s) aa)<|e<|cl A2 (Ed s _ hs) aa fun fe fi dC=> ?_
 obtain ⟨⟨eG,rfl,cx⟩,hE15⟩:=dC
 have cf:=dd.trans hE15
 have cC:=Wk.aB hE15 d5
 have cD:=Wk.aB hE15 c1
 have e0:=hE15.size
 refine p mv<|p (xt aa aa)<|p (xt aa aa)<|p aA<|p aA<|nl<|dE<|dI<|dI<|dY<|rg aa<|p mv<|p (fR aa aa)<|nl<|dE<|dY<|cd aa (fun bB=> ?_) fun bB=> ?_
 have cv:65536 < s.length:=qD fun h=>bB<|by rw [if_neg h]
 exact sq fun cH bo=>rg aa<|p mv<|p (cT (ps:= [(0,.int .i64 1),(2,.int .i64 (if 65536 < s.length then 10 else 0))]) (L:= [.int .i64 1,.int .i64 0,.int .i64 (if 65536 < s.length then 10 else 0)]) qj aa<|aa)<|e<|dF xd aa aa (v:= .pointer none) aa cC aw fun ft cp c7=>e<|gi gY aa aa aa aa (cp.aB cD fun h=>by omega) aw fun fu cq c8=>nl<|tn<|bo _ _<|rt<|prt<|LY (uu aa (lx<|yI aa aa<|(aY<|cq.aB c7 fun h=>by omega).trans aa)<|lx<|dB aa aa aa fun j eT=>by rw [fF,aY c8,if_pos cv]; simp)<|m6.no (G7 cv)<|(cf.trans' cp fun k hk h=>by omega).trans' cq fun k hk h=>by omega
 have am:¬65536 < s.length:=fun h=>bB<|by rw [if_pos h]; decide
 rw [if_neg am] at cx
 obtain ⟨vs,cB,d6⟩:=cx
 obtain ⟨ar,cr,rfl⟩:=cU cB
 refine aO<|dE<|dI<|dY<|rg aa<|p (aH (str s) aa)<|e<|cl A3 (Eu s _ hs) aa fun v24 cG dD=> ?_
 obtain ⟨⟨a24,rfl,cy⟩,hE24⟩:=dD
 rw [if_neg am] at cy
 obtain ⟨e9,nO,rfl⟩:=cU cy
 have dc:=cf.trans hE24
 have eU:=oQ s
 have e2:=hE24.size
 refine p mv<|p (xt aa aa)<|p (xt aa aa)<|p aA<|p aA<|nl<|dE<|dI<|dY<|rg aa<|e<|rX fun M fm eL ct cZ=> ?_
 have e3:=ct.size
 refine p (cT (ps:= [(1,.map (some M))]) (L:= [.int .i64 0,.string ⟨⟨[]⟩⟩,.string ⟨⟨[]⟩⟩,.int .u16 0,.int .u16 0,.int .u16 0,.int .u16 0,.int .u16 0,.int .i64 0,.slice none 0 0,.slice none 0 0,.slice none 0 0,.slice none 0 0,.map (some M)]) QV aa<|aa)<|e<|ra aa fun I fo eM bs c0=> ?_
 have e4:=bs.size
 refine p mv<|p mv<|p (bO gU aa aa)<|p (bI (((cV s).length+1:Nat):Int) aa aa<|bf ab ab)<|e<|rX fun U fq eO bg c4=> ?_
 have e6:=bg.size
 refine e<|rX fun Y fr eQ aX c6=> ?_
 have e7:=aX.size
 refine p (cT (ps:= [(0,.pointer (some ⟨I,0,none⟩)),(1,.slice ar (et s).length cr),(3,.int .i64 ((cV s).length+1:Nat)),(4,.map (some U)),(5,.map (some Y))]) (L:= [.pointer (some ⟨I,0,none⟩),.slice ar (et s).length cr,.int .i64 0,.int .i64 ((cV s).length+1:Nat),.map (some U),.map (some Y),.slice none 0 0]) QZ aa<|aa)<|e<|ra aa fun A aK eR aR bl=> ?_
 have e8:=aR.size
 have dV:=Wk.aB (bg.md.trans<|aX.md.trans aR.md) c0
 refine p aA<|nl<|dE<|dI<|dY ?_
 have ah:(fun w'=>Md (fun k=>k=I) aK w') aK.drew:=(Md.refl _ _).drew
 refine bM (fun w'=>Md (fun k=>k=I) aK w') aa wide ah<|hp 0 aa ag (fun _ _=>mv) ah<|hp 1 aa ag (fun _ _=>nc aa) ah<|hp 2 aa ag (fun _ _=>fa fJ aa) ah<|hp 3 aa ag (fun w' J=>ld eF aa<|Md.aI J ((aY bl).trans aa) fun h=>by omega) ah<|hp 4 aa ag (fun _ _=>mv) ah<|hp 5 aa ag (fun _ _=>nc aa) ah<|hp 6 aa ag (fun _ _=>fa fJ aa) ah<|hp 7 aa ag (fun w' J=>ld eF aa<|Md.aI J ((aY bl).trans aa) fun h=>by omega) ah<|hp 8 aa ag (fun _ _=>nc aa) ah<|hp 9 aa ag (fun _ _=>fa fj aa) ah<|hp 10 aa ag (fun _ _=>fa p5 aa) ah<|he 11 aa ag<|dF lj aa aa (v:= .int .i64 (1:Nat)) aa dV (by show 0 +0 +0 < 14; decide) fun eu du c9=> ?_
 have aZ:(fun w'=>Md (fun k=>k=I) aK w') eu:=ah.trans' du fun _ _ h=>h
 refine ⟨aZ,?_⟩
 refine hp 12 aa ag (fun _ _=>nc aa) aZ<|hp 13 aa ag (fun _ _=>fa fj aa) aZ<|hp 14 aa ag (fun _ _=>fa xK aa) aZ<|he 15 aa ag<|dF lj aa aa (v:= .int .i64 (3:Nat)) aa c9 (by show _ < 14; decide) fun ev dv db=> ?_
 have bA:(fun w'=>Md (fun k=>k=I) aK w') ev:=aZ.trans' dv fun _ _ h=>h
 refine ⟨bA,?_⟩
 refine hn ag<|dE<|dI<|K0 N9 #[.pointer (some ⟨aM,0,none⟩),.pointer (some ⟨aN,0,none⟩)] aa aw ?_
 refine dI<|dY<|rg aa<|e<|cl I9 (Nh _) aa fun v53 ak dH=> ?_
 obtain ⟨aC,rfl,eS,eg,cg⟩:=dH
 have de:Wk cG aK:=ct.md.trans<|bs.md.trans<|bg.md.trans<|aX.md.trans aR.md
 have aQ:Md (fun k=>k=I) aK ak:=bA.trans' cg fun _ _ h=>h.elim
 have aW:Wk cG ak:=Md.trans' de aQ fun k hk h=>by omega
 have eY:=aQ.size
 have df:=dc.trans aW
 have dS:ak.heap[I]? =some (.cells (mB gO ⟨.slice none 0 0,.slice none 0 0,.slice none 0 0,.slice none 0 0,[],[]⟩ M).toArray 125 (0,0)):=Wk.aB cg db
 have dU:ak.heap[A]? =some (.cells (sc (⟨A,I,U,Y,M,(cV s).length+1⟩:bT) ⟨.slice ar (et s).length cr,vs,.slice none 0 0⟩ 0).toArray 195 (0,0)):=aQ.aB bl fun h=>by omega
 have d0:bU ak.heap M (ni .u16) (fun _=>none):=bU.md (bU.wk (bU.nil cZ)<|bs.md.trans<|bg.md.trans<|aX.md.trans aR.md) aQ fun h=>by omega
 have d1:bU ak.heap U gD (fun _=>none):=bU.md (bU.wk (bU.nil c4)<|aX.md.trans aR.md) aQ fun h=>by omega
 have d2:bU ak.heap Y (ni .u16) (fun _=>none):=bU.md (bU.wk (bU.nil c6) aR.md) aQ fun h=>by omega
 have dg:cK ak w.heap.size I M gO ⟨.slice none 0 0,.slice none 0 0,.slice none 0 0,.slice none 0 0,[],[]⟩:=⟨dS,dJ _ _ _ _,dJ _ _ _ _,dm.nil _ _ _,dJ _ _ _ _,dJ _ _ _ _,dm.nil _ _ _,⟨_,d0,fun _=>rfl⟩,⟨ab,ab⟩,rfl⟩
 have dy:bW ak w.heap.size (⟨A,I,U,Y,M,(cV s).length+1⟩:bT) gO ⟨.slice ar (et s).length cr,vs,.slice none 0 0⟩ (et s) 0 []:=⟨dU,(((Tg.j8 cB).mono ab).wk<|hE24.trans aW).Rq,(d6.mono ab).wk (hE24.trans aW),⟨_,d1,fun _=>rfl⟩,⟨_,d2,fun x b5=>by rw [KQ b5]; rfl⟩,dJ _ _ _ _,⟨by show w.heap.size≤A; omega,by show w.heap.size≤U; omega,by show w.heap.size≤Y; omega⟩,⟨by show U≠Y; omega,by show U≠M; omega,by show Y≠M; omega⟩⟩
 have eX:=Eb s
 have dO:St ak w.heap.size (⟨A,I,U,Y,M,(cV s).length+1⟩:bT) gO (et s) 0 []:=⟨_,_,dg,dy,⟨by show 0 +0 +0 +0 +(et s).length≤70000; omega,by show 0 +(et s).length≤70000; omega,fun q bY=>by have h:=Ec bY; exact ⟨h.2.2.1,ab,fun x b5=>by have :=(h.2.2.2.2 x b5).2; omega⟩,.inl rfl,fun l a5=>by cases a5⟩⟩
 have ef:iU gO []:=fun k hk _=>by have h:∀ k∈fC,gO.sp.getD (fC.idxOf k) 0=0:=aw
                                  exact h k hk
 have d3:Nx gO:=⟨fun l a5=>(by cases a5),fun l a5=>by cases a5⟩
 have eZ:=bA.size
 have d4:m4 w ak (⟨A,I,U,Y,M,(cV s).length+1⟩:bT) aM aN aC:=⟨Wk.aB (hE24.trans aW) cC,Wk.aB (hE24.trans aW) cD,⟨ab,ab,ab⟩,eg,⟨by show aC≠U; omega,by show aC≠Y; omega,by show aC≠M; omega⟩,df⟩
 refine p aA<|nl<|dE<|dI<|dY<|aB<|lp (fun cc bb a9=> ∃ (k:Nat) (F:aG) (rows:List Rw) (ln:Nat) (seen:List Tx),(ga (⟨A,I,U,Y,M,(cV s).length+1⟩:bT).eof k F seen rows=ga ((cV s).length+1) (et s).length gO [] (et s))∧(rows.length≤k)∧(St a9 w.heap.size (⟨A,I,U,Y,M,(cV s).length+1⟩:bT) F rows ln seen)∧(iU F seen)∧(Nx F)∧(m4 w a9 (⟨A,I,U,Y,M,(cV s).length+1⟩:bT) aM aN aC)∧(bb 2= .pointer (some ⟨aM,0,none⟩))∧(bb 3= .pointer (some ⟨aN,0,none⟩))∧(bb 8= .pointer (some ⟨A,0,none⟩))∧(bb 9= .map (some aC))∧(rows.length=cc)) _ ⟨(et s).length,gO,et s,0,[],aa,(cw _),dO,ef,d3,d4,aa,aa,aa,aa,aa⟩ ?_
 rintro cc bb a9 ⟨k,F,rows,ln,seen,ai,hk,J,bj,bi,bQ,d8,d9,ea,eb,rfl⟩
 refine fx 2 d8<|fx 3 d9<|fx 8 ea<|fx 9 eb ?_
 obtain ⟨V,R,O,au,aP⟩:=J
 obtain ⟨vr,vs,vn⟩:=R
 obtain ⟨b9,cb,eh⟩:=au.rws.slice
 obtain rfl :vr= .slice b9 rows.length cb:=eh
 refine sq fun cH bo=>sq fun ew dj=>rg aa<|p (aH (.pointer<|some ⟨A,0,none⟩) aa)<|p (nc aa)<|p (fa rK aa)<|p (ld pH aa<|(aY au.cells).trans aa)<|p (bO uO aa aa)<|p (gt aa aa)<|nl<|tn<|dj _ _<|cd aa (fun bD=> ?_) fun bD=> ?_
 obtain ⟨⟨n,r⟩,rest,rfl⟩:∃ q rest,rows=q::rest:=by
  cases rows with
  | nil=>exact absurd bD<|by simp
  | cons q rest=>exact ⟨q,rest,rfl⟩
 have b2:=aP.row (n,r)<|pn ..
 have dP:=aP.len
 have dQ:=aP.sl
 simp only [bV] at dP dQ hk
 refine aO<|tn<|bo _ _<|aB<|sq fun ex dk=>rg aa<|p (aH (.pointer<|some ⟨A,0,none⟩) aa)<|e<|cl A4 (EI w.heap.size (⟨A,I,U,Y,M,(cV s).length+1⟩:bT) F ⟨.slice b9 (rest.length+1) cb,vs,vn⟩ n r rest ln seen a9 au) aa fun ff er dK=> ?_
 obtain ⟨⟨R1,dz⟩,hT1,hM1⟩:=dK
 obtain ⟨b8,ca,rfl⟩:=hT1.slice
 have dh:=O.rb au hM1
 have cA:=bQ.mw O au<|ed.rb au hM1
 have eW:0 < r.length:=mW.2 b2.1
 have ce:=jg.pT aP
 have cE:=Nd<|r.getD 0 []
 obtain ⟨eI,dZ,cz⟩:=cA.tb
 refine p aA<|nl<|tn<|dk _ _<|sq fun ey dl=>rg aa<|p (aH (.map<|some aC) aa)<|p mv<|p (a6 dN aa aa ab<|aE.ok (hT1.dq.2)<|cY ab)<|p (ld cO aa<|da.get (i:=0) hT1.dq.2 ab)<|p (Di kz Sr gp (dZ) aa aa (⟨_,aa⟩) ((congrArg (fun o=>Option.getD o _)<|cz<|r.getD 0 []).trans cE.1)<|(congrArg Option.isSome<|cz<|r.getD 0 []).trans cE.2)<|p mv<|p (xt aa aa)<|p (xt aa aa)<|e<|gx Si fun cN fh eJ dx cQ=>e<|gi KJ aa aa aa (Nj _) cQ aw fun b7 ds cR=> ?_
 have bc:Wk er b7:=dx.md.trans' ds fun k hk h=>by omega
 have bh:b7.heap[cN]? =some (.cells [.int .i64 (width (r.getD 0 []):Nat),nT (r.getD 0 [])].toArray 202 (0,0)):=cR
 have ay:=dh.wk bc
 have Z:=dz.wk bc
 have aS:=hT1.wk bc
 have az:=cA.md bc
 refine p aA<|nl<|tn<|dl _ _<|sq fun ez dn=>rg aa<|p (aH (.pointer<|some ⟨A,0,none⟩) aa)<|p mv ?_
 refine eP aa (cI fM (fQ A n _ 110 b7 Z.dR aw) aa fun v72 es dL=> ?_) (fun c w' ad aU O=>by
  obtain ⟨rfl,av,rfl⟩:=ad
  exact oX aa aw ((O 2<|.head _).trans aa) ((O 3<|.tail _<|.head _).trans aa) az (pF am<|PR ai hk<|lE.1<|of_decide_eq_false av))
 obtain ⟨rfl,aj,rfl⟩:=dL
 have aj:width (r.getD 0 [])≠0:=of_decide_eq_true aj
 refine nl<|tn<|dn _ _<|sq fun eC dp=>rg aa<|p (aH (.pointer<|some ⟨A,0,none⟩) aa)<|p mv<|p (bO gU aa aa)<|p (fa Cr aa)<|p (ld bK aa<|(aY bh).trans aa)<|p (bR aa aa) ?_
 refine eP aa (cI fM (fQ A n _ 111 es Z.dR aw) aa fun fg ax dM=> ?_) (fun c w' ad aU O=>by
  obtain ⟨rfl,av,rfl⟩:=ad
  exact oX aa aw ((O 2<|.head _).trans aa) ((O 3<|.tail _<|.head _).trans aa) az (pF am<|PS ai hk aj fun h=>of_decide_eq_false av<|by rw [h]))
 obtain ⟨rfl,an,rfl⟩:=dM
 have an:r.length=width (r.getD 0 []):=by have :=of_decide_eq_true an; omega
 refine nl<|tn<|dp _ _<|sq fun eD cj=> ?_
 obtain ⟨fc,ec,ee⟩:=Z.sm
 have C:(fun w'=>Wk ax w') ax.drew:=(Md.refl _ _).drew
 refine bM (fun w'=>Wk ax w') aa wide C<|hp 0 aa ag (fun _ _=>aH (.pointer<|some ⟨A,0,none⟩) aa) C<|hp 1 aa ag (fun _ _=>fa Cr aa) C<|hp 2 aa ag (fun w' J=>ld bK aa<|Wk.aI J<|(aY bh).trans aa) C<|hp 3 aa ag (fun _ _=>bR aa aa) C<|hp 4 aa ag (fun _ _=>mv) C<|ir (t:=84) aa (fun a4=> ?_) fun a4=> ?_
 refine mE 5 aa ag aa aa aa aa C<|mE 6 aa ag aa aa aa aa C<|mE 7 aa ag aa aa aa aa C<|mE 8 aa ag aa aa aa aa C<|mE 9 aa ag aa aa aa aa C<|mE 10 aa ag aa aa aa aa C<|mE 11 aa ag aa aa aa aa C<|mE 12 aa ag aa aa aa aa C<|mE 13 aa ag aa aa aa aa C<|hp 14 aa ag (fun _ _=>bL aa) C ?_
 refine p9 15 aa ag aa (cI fM (fQ A n _ 112 ax.drew (Wk.aI C Z.dR) aw) aa fun en aL bx=> ?_) (fun c w' ad aU O=>by
  obtain ⟨rfl,av,rfl⟩:=ad
  first
   | exact absurd av aw
   | exact oX rfl aw ((O 2<|.head _).trans rfl) ((O 3<|.tail _<|.head _).trans rfl) (az.md Wk.dr) (pF am<|D4 ai hk aj an (fun h=>a4<|by rw [h]; rfl)<|lE.1 fun h=>of_decide_eq_false av<|by rw [om.2 h]; rfl))
 obtain ⟨rfl,b6,a8⟩:=bx
 have aF:width (r.getD 0 [])=2→r.getD 0 []∉seen:=by
  first
   | exact fun h=>absurd a4 ab
   | exact fun _=>om.1<|by have :=of_decide_eq_true b6; omega
 have E:Wk ax aL:=by rw [a8]; exact Wk.dr
 obtain ⟨ei,bN,bG⟩:=CM aj
 obtain ⟨cP,b4,bE,bF⟩:=CR w.heap.size (⟨A,I,U,Y,M,(cV s).length+1⟩:bT) F rest n seen r w.heap.size b8 ca aL ⟨_,_,ay.wk E,Z.wk E,ce⟩ (aS.wk E) b2.2.2 an bj aF ab bN
 have bH:=bG _ _ b4
 have bz:(fun w'=>Wk ax w') aL:=by rw [a8]; exact C
 refine ⟨bz,?_⟩
 refine hn ag<|tn<|cj _ _<|sq fun cJ bp=>rg aa<|p (fa Cs aa)<|p (ld Ab aa<|(aY<|Wk.aB E bh).trans<|congrArg some bH)<|p (aH (.pointer<|some ⟨A,0,none⟩) aa)<|p mv ?_
 refine eP aa (Ff bE aa bF aa fun em aJ bv=> ?_) (fun c w' ad aU O=>by
  obtain ⟨l,e,ac,rfl,aq⟩:=ad
  exact oX aa aw ((O 2<|.head _).trans aa) ((O 3<|.tail _<|.head _).trans aa) ((az.md E).mw (ay.wk E) (Z.wk E) aq) (pF am<|D5 ai hk aj an aF ac))
 obtain ⟨rfl,F',rows',ln',ac,⟨cL,bk,aV,ae,ap⟩,aq⟩:=bv
 have bX:=(az.md E).mw (ay.wk E) (Z.wk E) aq
 obtain ⟨ej,bZ,_⟩:=Z.sm
 obtain ⟨ek,b0,_⟩:=Z.tm
 obtain ⟨el,b1,_⟩:=ay.cm
 have a0:=(aS.wk E).md aq<|Wr.ne (dw<|bZ.wk E) (dw<|b0.wk E) (dw<|b1.wk E) aw
 obtain ⟨fs,a2,a3⟩:=ae.sm
 have dT:=qM (a:=r.getD 0 []) (l:=seen)
 have a1:=D6 ai hk aj an aF ac
 refine nl<|tn<|bp _ _ ?_
 have G:(fun w'=>Wk aJ w') aJ.drew:=(Md.refl _ _).drew
 refine eB (fun w'=>Wk aJ w') 9 aa wide G<|lq 0 aa ag (fun _ _=>aH (.pointer<|some ⟨A,0,none⟩) aa) G<|lq 1 aa ag (fun _ _=>nc aa) G<|lq 2 aa ag (fun _ _=>fa p4 aa) G<|lq 3 aa ag (fun w' J=>ld pI aa<|Wk.aI J<|(aY ae.cells).trans aa) G<|lq 4 aa ag (fun _ _=>mv) G<|lq 5 aa ag (fun _ _=>a6 dN aa aa ab<|aE.ok (aE.wk a0.dq.2 G)<|cY ab) G<|lq 6 aa ag (fun w' J=>ld cO aa<|Wk.aI J<|da.get (i:=0) a0.dq.2 ab) G<|lq 7 aa ag (fun w' J=>mF n6 mS gp (bU.md (a2) J id) aa aa (⟨_,aa⟩)<|a3<|r.getD 0 []) G<|lq 8 aa ag (fun _ _=>bI ((seen.count (r.getD 0 [])+1:Nat):Int) aa aa<|bf ab ab) G<|c5 9 aa ag ag<|qs n6 gp (a2.wk G) aa aa aa (⟨_,aa⟩) fun ba bq bu=> ?_
 have aD:=ig bq
 have bw:bW ba w.heap.size (⟨A,I,U,Y,M,(cV s).length+1⟩:bT) F' bk rows' ln' (seen++ [r.getD 0 []]):=bW.Ei ae aD bu<|Ej _ a3
 have bm:=cK.ms aV ae aD
 have bS:=bX.mw aV ae<|ed.ms ae aD
 have d7:=rS ac
 have G:St ba w.heap.size (⟨A,I,U,Y,M,(cV s).length+1⟩:bT) F' rows' ln' (seen++ [r.getD 0 []]):=⟨_,_,bm,bw,⟨ap.len,by rw [bJ,iH]; omega,ap.row,ap.kd,ap.al⟩⟩
 have b3:=CP bj ac
 have bP:=xX bi ac
 exact eA ag<|bn<|tn<|⟨_,by simp only [bV]; have :=rS ac; omega,k - 1,F',rows',ln',seen++ [r.getD 0 []],a1.1,a1.2,G,b3,bP,bS,aa,aa,aa,aa,aa⟩
 refine mD 5 aa ag aa aa aa (fun _ _=>aH (.pointer<|some ⟨A,0,none⟩) aa) C<|mD 6 aa ag aa aa aa (fun _ _=>nc aa) C<|mD 7 aa ag aa aa aa (fun _ _=>fa p4 aa) C<|mD 8 aa ag aa aa aa (fun w' J=>ld pI aa<|Wk.aI J<|(aY Z.cells).trans aa) C<|mD 9 aa ag aa aa aa (fun _ _=>mv) C<|mD 10 aa ag aa aa aa (fun _ _=>a6 dN aa aa ab<|aE.ok (aE.wk aS.dq.2 C)<|cY ab) C<|mD 11 aa ag aa aa aa (fun w' J=>ld cO aa<|Wk.aI J<|da.get (i:=0) aS.dq.2 ab) C<|mD 12 aa ag aa aa aa (fun w' J=>mF n6 mS gp (bU.md (ec) J id) aa aa (⟨_,aa⟩)<|ee<|r.getD 0 []) C<|mD 13 aa ag aa aa aa (fun _ _=>bR aa aa) C<|hp 14 aa ag (fun _ _=>bC aa) C ?_
 refine p9 15 aa ag aa (cI fM (fQ A n _ 112 ax.drew (Wk.aI C Z.dR) aw) aa fun en aL bx=> ?_) (fun c w' ad aU O=>by
  obtain ⟨rfl,av,rfl⟩:=ad
  first
   | exact absurd av aw
   | exact oX rfl aw ((O 2<|.head _).trans rfl) ((O 3<|.tail _<|.head _).trans rfl) (az.md Wk.dr) (pF am<|D4 ai hk aj an (fun h=>a4<|by rw [h]; rfl)<|lE.1 fun h=>of_decide_eq_false av<|by rw [om.2 h]; rfl))
 obtain ⟨rfl,b6,a8⟩:=bx
 have aF:width (r.getD 0 [])=2→r.getD 0 []∉seen:=by
  first
   | exact fun h=>absurd a4 ab
   | exact fun _=>om.1<|by have :=of_decide_eq_true b6; omega
 have E:Wk ax aL:=by rw [a8]; exact Wk.dr
 obtain ⟨ei,bN,bG⟩:=CM aj
 obtain ⟨cP,b4,bE,bF⟩:=CR w.heap.size (⟨A,I,U,Y,M,(cV s).length+1⟩:bT) F rest n seen r w.heap.size b8 ca aL ⟨_,_,ay.wk E,Z.wk E,ce⟩ (aS.wk E) b2.2.2 an bj aF ab bN
 have bH:=bG _ _ b4
 have bz:(fun w'=>Wk ax w') aL:=by rw [a8]; exact C
 refine ⟨bz,?_⟩
 refine hn ag<|tn<|cj _ _<|sq fun cJ bp=>rg aa<|p (fa Cs aa)<|p (ld Ab aa<|(aY<|Wk.aB E bh).trans<|congrArg some bH)<|p (aH (.pointer<|some ⟨A,0,none⟩) aa)<|p mv ?_
 refine eP aa (Ff bE aa bF aa fun em aJ bv=> ?_) (fun c w' ad aU O=>by
  obtain ⟨l,e,ac,rfl,aq⟩:=ad
  exact oX aa aw ((O 2<|.head _).trans aa) ((O 3<|.tail _<|.head _).trans aa) ((az.md E).mw (ay.wk E) (Z.wk E) aq) (pF am<|D5 ai hk aj an aF ac))
 obtain ⟨rfl,F',rows',ln',ac,⟨cL,bk,aV,ae,ap⟩,aq⟩:=bv
 have bX:=(az.md E).mw (ay.wk E) (Z.wk E) aq
 obtain ⟨ej,bZ,_⟩:=Z.sm
 obtain ⟨ek,b0,_⟩:=Z.tm
 obtain ⟨el,b1,_⟩:=ay.cm
 have a0:=(aS.wk E).md aq<|Wr.ne (dw<|bZ.wk E) (dw<|b0.wk E) (dw<|b1.wk E) aw
 obtain ⟨fs,a2,a3⟩:=ae.sm
 have dT:=qM (a:=r.getD 0 []) (l:=seen)
 have a1:=D6 ai hk aj an aF ac
 refine nl<|tn<|bp _ _ ?_
 have G:(fun w'=>Wk aJ w') aJ.drew:=(Md.refl _ _).drew
 refine eB (fun w'=>Wk aJ w') 9 aa wide G<|lq 0 aa ag (fun _ _=>aH (.pointer<|some ⟨A,0,none⟩) aa) G<|lq 1 aa ag (fun _ _=>nc aa) G<|lq 2 aa ag (fun _ _=>fa p4 aa) G<|lq 3 aa ag (fun w' J=>ld pI aa<|Wk.aI J<|(aY ae.cells).trans aa) G<|lq 4 aa ag (fun _ _=>mv) G<|lq 5 aa ag (fun _ _=>a6 dN aa aa ab<|aE.ok (aE.wk a0.dq.2 G)<|cY ab) G<|lq 6 aa ag (fun w' J=>ld cO aa<|Wk.aI J<|da.get (i:=0) a0.dq.2 ab) G<|lq 7 aa ag (fun w' J=>mF n6 mS gp (bU.md (a2) J id) aa aa (⟨_,aa⟩)<|a3<|r.getD 0 []) G<|lq 8 aa ag (fun _ _=>bI ((seen.count (r.getD 0 [])+1:Nat):Int) aa aa<|bf ab ab) G<|c5 9 aa ag ag<|qs n6 gp (a2.wk G) aa aa aa (⟨_,aa⟩) fun ba bq bu=> ?_
 have aD:=ig bq
 have bw:bW ba w.heap.size (⟨A,I,U,Y,M,(cV s).length+1⟩:bT) F' bk rows' ln' (seen++ [r.getD 0 []]):=bW.Ei ae aD bu<|Ej _ a3
 have bm:=cK.ms aV ae aD
 have bS:=bX.mw aV ae<|ed.ms ae aD
 have d7:=rS ac
 have G:St ba w.heap.size (⟨A,I,U,Y,M,(cV s).length+1⟩:bT) F' rows' ln' (seen++ [r.getD 0 []]):=⟨_,_,bm,bw,⟨ap.len,by rw [bJ,iH]; omega,ap.row,ap.kd,ap.al⟩⟩
 have b3:=CP bj ac
 have bP:=xX bi ac
 exact eA ag<|bn<|tn<|⟨_,by simp only [bV]; have :=rS ac; omega,k - 1,F',rows',ln',seen++ [r.getD 0 []],a1.1,a1.2,G,b3,bP,bS,aa,aa,aa,aa,aa⟩
 obtain rfl :rows= []:=by
  cases rows with
  | nil=>rfl
  | cons q rest=>exact absurd (by simp only [bV]; omega) bD
 rw [D7] at ai
 refine ext<|te _<|te _<|be<|dE<|dI<|dY<|rg aa<|p (aH (.pointer<|some ⟨A,0,none⟩) aa) ?_
 refine eP aa (cI Ja (Jn w.heap.size (⟨A,I,U,Y,M,(cV s).length+1⟩:bT) F [] ln seen a9 ⟨_,_,O,au,aP⟩ bi.2) aa fun fd cF dA=> ?_) (fun c w' ad aU ch=>by
  obtain ⟨q,bY,rfl,br⟩:=ad
  exact oX aa aw ((ch 2<|.head _).trans aa) ((ch 3<|.tail _<|.head _).trans aa) (bQ.mw O au br) (G6 am ai.symm bY))
 obtain ⟨rfl,dW,⟨cM,eE,fb,ci,dG⟩,br⟩:=dA
 have aT:=bQ.mw O au br
 have eV:=aT.lo
 refine nl<|dE<|dI<|dY<|rg aa<|p (aH (.pointer<|some ⟨A,0,none⟩) aa)<|p (nc aa)<|p (fa fJ aa)<|p (ld eF aa<|(aY dG.cells).trans aa)<|p (cT (ps:= []) (L:= [.int .i64 0,.int .i64 0,.int .i64 0]) qj aa<|aa)<|e<|dF xd aa aa (v:= .pointer<|some ⟨I,0,none⟩) aa aT.c2 aw fun fl ck cW=>e<|gi gY aa aa aa aa (ck.aB aT.c3 fun h=>by omega) aw fun eo cn cX=> ?_
 have co:Md (fun k=>k=aM∨k=aN) cF eo:=(ck.mono fun _ _ h=> .inl h).trans' cn fun _ _ h=> .inr h
 refine nl<|dE<|oY ?_
 have cu:TF cF [62,49] (fun k=>k=aM∨k=aN):=TF.or (TF.eq (dt aT.c2) aw)<|TF.eq (dt aT.c3) aw
 obtain ⟨eH,dX,_⟩:=ci.cm
 have di:=ci.md co cu aw<|cu.no (dw dX) aw
 exact PV aa aw aa aa (cn.aB cW fun h=>by omega) cX aa (fun w' hm=>by
  unfold m6
  rw [G8 am ai.symm dW]
  exact ⟨⟨I,M,cM,aa,di.wk hm,⟨seen,aP⟩,bi⟩,(aT.wk.trans' co fun k hk h=>by omega).trans hm⟩)
end Go.Hb.je
end
namespace Go.Hb.iT
def jW (F:aG) (V:dQ):List Value:= [.int .i64 (F.kind:Nat),str F.rk,str F.tr,aR (F.sp.getD 0 0),aR (F.sp.getD 1 0),aR (F.sp.getD 2 0),aR (F.sp.getD 3 0),aR (F.sp.getD 4 0),.int .i64 (F.least:Nat),V.v9,V.v10,V.v11,V.v12]
structure m3 (w:World) (B:Nat) (F:aG) (V:dQ):Prop where
 o9:bp w B 128 2 V.v9 F.c6.length (lZ F.c6)
 fZ:bp w B 70 1 V.v10 F.aliases.length V.sa
 al:dm w B 51 V.sa F.aliases
 fz:bp w B 131 5 V.v11 F.bu.length (lg F.bu)
 ea:bp w B 77 7 V.v12 F.rules.length (eC<|F.rules.zip V.rn)
 nx:dm w B 51 V.rn (F.rules.map (·.next))
theorem vO {w:World} {B e:Nat} {vs:List Value} {C:List (List Nat)} (h:dm w B e vs C):vs.all eW=true :=by
 rw [kD]
 intro v A
 obtain ⟨i,hi⟩:=List.getElem?_of_mem A
 have h1:=(eH.1 hi).1
 obtain ⟨u,hu,q⟩:=dm.get h (i:=i)<|by rw [← h.1]; exact h1
 rw [hi] at hu; cases hu
 obtain ⟨a,c,rfl⟩:=q.slice; rfl
theorem Qg {w:World} {B e:Nat} {rs:List cG} {vs:List Value} {i:List (List Nat)} (h:dm w B e vs i):(eC<|rs.zip vs).all eW=true :=by
 rw [kD]
 intro v a
 obtain ⟨q,c,a⟩:=qP.1 a
 have h1:=kD.1 (vO h) q.2 (Gz c).2
 simp only [dC,eY,sW,or_false] at a
 rcases a with rfl | rfl | rfl | rfl | rfl | rfl | rfl <;> first | rfl | exact h1
theorem Qh {rs:List cG} {vs:List Value} {i:Nat} {v:Value} (hi:i < rs.length) (E:i < vs.length):(eC<|rs.zip vs).set (i*7 +6) v=eC (rs.zip<|vs.set i v):=by
 obtain ⟨r,C⟩:∃ r,rs[i]? =some r:=⟨_,cj hi⟩
 obtain ⟨u,hu⟩:∃ u,vs[i]? =some u:=⟨_,cj E⟩
 have G:(rs.zip vs)[i]? =some (r,u):=iR.2 ⟨C,hu⟩
 have O:rs.zip (vs.set i v)=(rs.zip vs).set i (r,v):=by
  apply nB
  intro j
  rw [jR]
  by_cases A:i=j
  · subst A
    rw [if_pos rfl,if_pos (eH.1 G).1]
    exact iR.2 ⟨C,by simp [E]⟩
  · rw [if_neg A]
    cases h1:(rs.zip vs)[j]? with
    | none=>
      rw [Gp,vD] at h1 ⊢
      rw [sS]; exact h1
    | some q=>
      have h2:=iR.1 h1
      exact iR.2 ⟨h2.1,by rw [jR,if_neg A]; exact h2.2⟩
 have U:(rs.zip vs).length=min rs.length vs.length:=vD
 have a:(eC<|rs.zip vs).length=(rs.zip vs).length*7:=nR (f:=dC) (m:=7) (fun _=>rfl) _
 rw [O,show eC ((rs.zip vs).set i (r,v))=(eC<|rs.zip vs).take (i*7)++dC (r,v)++(eC<|rs.zip vs).drop (i*7 +7) from Ci (f:=dC) (m:=7) (fun _=>rfl) _ ab]
 apply nB
 intro j
 have I:=fun c a=>xA (f:=dC) (m:=7) (fun _=>rfl) (c:=c) G a
 have J:∀ c,c < 7→(eC<|rs.zip vs)[i*7 +c]? =(dC (r,u))[c]? :=fun c h=>I c h
 have M:((eC<|rs.zip vs).take<|i*7).length=i*7:=by rw [ec,a]; omega
 rw [jR]
 by_cases h1:j < i*7
 · rw [if_neg ab,dK,lG ab,mg,if_pos h1]
 · rw [dK,me ab,M]
   by_cases h2:j < i*7 +7
   · rw [lG (by show _ < 7; omega)]
     obtain ⟨c,rfl⟩:∃ c,j=i*7 +c:=⟨j - i*7,ab⟩
     have h3:c < 7:=ab
     rw [J c h3,show i*7 +c - i*7=c by omega]
     match c,h3 with
     | 0,_=>rw [if_neg ab]; rfl
     | 1,_=>rw [if_neg ab]; rfl
     | 2,_=>rw [if_neg ab]; rfl
     | 3,_=>rw [if_neg ab]; rfl
     | 4,_=>rw [if_neg ab]; rfl
     | 5,_=>rw [if_neg ab]; rfl
     | 6,_=>rw [if_pos rfl,if_pos ab]; rfl
   · rw [if_neg ab,me (by show 7≤_; omega),show (dC (r,v)).length=7 from rfl,sQ]
     congr 1; omega
theorem kT {l:List (cG×Value)} {i:Nat} {q:cG×Value} (h:l[i]? =some q):eC l≠[]:=fun h2=>by
 have h3:(eC l).length=l.length*7:=nR (f:=dC) (m:=7) (fun _=>rfl) _
 have h4:=(eH.1 h).1
 rw [h2] at h3
 have h5:0=l.length*7:=h3
 omega
theorem vQ {F:aG} {V:dQ} (A:V.v9.oneCell'=true) (c:V.v10.oneCell'=true) (i:V.v11.oneCell'=true) (q:V.v12.oneCell'=true):(jW F V).all eW=true :=by
 rw [kD]
 intro v a
 simp only [jW,eY,sW,or_false] at a
 rcases a with rfl | rfl | rfl | rfl | rfl | rfl | rfl | rfl | rfl | rfl | rfl | rfl | rfl <;> first | rfl | assumption
theorem Hz {w:World} {B fb mc:Nat} {F:aG} {V:dQ} (h:cK w B fb mc F V):(jW F V).all eW=true :=vQ (ej h.o9) (ej h.fZ) (ej h.fz)<|ej h.ea
theorem xg {α:Type} {l m:List α} {i:Nat} (h:l.drop i=m.drop i):l[i]? =m[i]? :=by
 have h1:=congrArg (·[0]?) h
 simpa using h1
theorem yL {α:Type} {l:List α} {i:Nat} {x:α} (h:i < l.length):(l.set i x).take (i+1)=l.take i++ [x]:=by
 rw [List.take_add_one,List.take_set_of_le (cw i)]; simp [h]
theorem set_drop {α:Type} {l m:List α} {i:Nat} {x:α} (h:l.drop i=m.drop i):(l.set i x).drop (i+1)=m.drop (i+1):=by
 rw [List.drop_set_of_lt (Nat.lt_succ_self i),show i.succ=i+1 from rfl]
 simpa [List.drop_drop] using congrArg (List.drop 1) h
theorem Ai {w:World} {B e i:Nat} {vs:List Value} {a:List (List Nat)} {v:Value} (h:dm w B e (vs.take i) (a.take i)) (hi:i < a.length) (q:i < vs.length) (c:Tg w B e (a.getD i []).length v ((a.getD i []).map aR)):dm w B e ((vs.set i v).take<|i+1) (a.take<|i+1):=by
 rw [yL q,ky a i [] hi]; exact h.snoc c
theorem JF (a:Option Addr) (n c:Nat) (xs:List Value) (w:World) (M:aE w.heap a xs) (ad:xs.length=n*2) (V:a=none→n=0) (h1:xs.all eW=true) (hn:n≤1048576):
 bd ao 48 (a7 [.slice a n c]) w (fun ag w'=>bp w' w.heap.size 128 2 ag n xs∧Wk w w'):=by
 refine enter func48 aa ntmps48 aa<|ak fun E=>ay<|E<|az fun G=>ak fun I=>au (.slice a n c)<|p (pV RE aa aa)<|nl<|I<|cb aa (fun A=> ?_) fun A=> ?_
 have Y:a=none:=by simpa using A
 refine ak fun i=>ay<|i<|rt<|tr<|ba aa ?_
 have Z:=V Y
 subst Z
 obtain rfl :=gr (show xs.length=0 by omega)
 exact ⟨dJ _ _ _ _,Md.refl _ _⟩
 refine aO<|G<|ak fun i=>e<|pM uE fun aj aq al q J=> ?_
 have C:=J w.heap.size ab
 refine au (.slice a n c)<|e<|ap uE (C) aa (by have :=q.size; omega) aa (M.wk q.md) (ad) (h1) ab ab fun ah ai ac U an am=> ?_
 have O:=Wk.own q.md C U<|cw _
 refine ay<|i<|rt<|ba aa ?_
 have ae:bp ai w.heap.size 128 2 ah n xs:=by simpa using ac
 exact ⟨ae,O⟩
theorem JE (v:Value) (n:Nat) (xs:List Value) (w:World) (A:Rd w.heap v n 2 xs) (h1:xs.all eW=true) (hn:n≤1048576):bd ao 48 [v].toArray w (fun v w'=>bp w' w.heap.size 128 2 v n xs∧Wk w w'):=by
 obtain ⟨a,c,rfl,i,C,q⟩:=A
 exact JF a n c xs w i C q h1 hn
theorem JB (a:Option Addr) (n c:Nat) (xs:List Value) (w:World) (M:aE w.heap a xs) (ad:xs.length=n*5) (V:a=none→n=0) (h1:xs.all eW=true) (hn:n≤1048576):
 bd ao 49 (a7 [.slice a n c]) w (fun ag w'=>bp w' w.heap.size 131 5 ag n xs∧Wk w w'):=by
 refine enter func49 aa ntmps49 aa<|ak fun E=>ay<|E<|az fun G=>ak fun I=>au (.slice a n c)<|p (pV EV aa aa)<|nl<|I<|cb aa (fun A=> ?_) fun A=> ?_
 have Y:a=none:=by simpa using A
 refine ak fun i=>ay<|i<|rt<|tr<|ba aa ?_
 have Z:=V Y
 subst Z
 obtain rfl :=gr (show xs.length=0 by omega)
 exact ⟨dJ _ _ _ _,Md.refl _ _⟩
 refine aO<|G<|ak fun i=>e<|pM uG fun aj aq al q J=> ?_
 have C:=J w.heap.size ab
 refine au (.slice a n c)<|e<|ap uG (C) aa (by have :=q.size; omega) aa (M.wk q.md) (ad) (h1) ab ab fun ah ai ac U an am=> ?_
 have O:=Wk.own q.md C U<|cw _
 refine ay<|i<|rt<|ba aa ?_
 have ae:bp ai w.heap.size 131 5 ah n xs:=by simpa using ac
 exact ⟨ae,O⟩
theorem JA (v:Value) (n:Nat) (xs:List Value) (w:World) (A:Rd w.heap v n 5 xs) (h1:xs.all eW=true) (hn:n≤1048576):bd ao 49 [v].toArray w (fun v w'=>bp w' w.heap.size 131 5 v n xs∧Wk w w'):=by
 obtain ⟨a,c,rfl,i,C,q⟩:=A
 exact JB a n c xs w i C q h1 hn
theorem JJ (a:Option Addr) (n c:Nat) (xs:List Value) (w:World) (M:aE w.heap a xs) (ad:xs.length=n*1) (V:a=none→n=0) (h1:xs.all eW=true) (hn:n≤1048576):
 bd ao 50 (a7 [.slice a n c]) w (fun ag w'=>bp w' w.heap.size 70 1 ag n xs∧Wk w w'):=by
 refine enter func50 aa ntmps50 aa<|ak fun E=>ay<|E<|az fun G=>ak fun I=>au (.slice a n c)<|p (pV uQ aa aa)<|nl<|I<|cb aa (fun A=> ?_) fun A=> ?_
 have Y:a=none:=by simpa using A
 refine ak fun i=>ay<|i<|rt<|tr<|ba aa ?_
 have Z:=V Y
 subst Z
 obtain rfl :=gr (show xs.length=0 by omega)
 exact ⟨dJ _ _ _ _,Md.refl _ _⟩
 refine aO<|G<|ak fun i=>e<|pM uF fun aj aq al q J=> ?_
 have C:=J w.heap.size ab
 refine au (.slice a n c)<|e<|ap uF (C) aa (by have :=q.size; omega) aa (M.wk q.md) (ad) (h1) ab ab fun ah ai ac U an am=> ?_
 have O:=Wk.own q.md C U<|cw _
 refine ay<|i<|rt<|ba aa ?_
 have ae:bp ai w.heap.size 70 1 ah n xs:=by simpa using ac
 exact ⟨ae,O⟩
theorem JI (v:Value) (n:Nat) (xs:List Value) (w:World) (A:Rd w.heap v n 1 xs) (h1:xs.all eW=true) (hn:n≤1048576):bd ao 50 [v].toArray w (fun v w'=>bp w' w.heap.size 70 1 v n xs∧Wk w w'):=by
 obtain ⟨a,c,rfl,i,C,q⟩:=A
 exact JJ a n c xs w i C q h1 hn
theorem JH (a:Option Addr) (n c:Nat) (xs:List Value) (w:World) (M:aE w.heap a xs) (ad:xs.length=n*7) (V:a=none→n=0) (h1:xs.all eW=true) (hn:n≤1048576):
 bd ao 52 (a7 [.slice a n c]) w (fun ag w'=>bp w' w.heap.size 77 7 ag n xs∧Wk w w'):=by
 refine enter func52 aa ntmps52 aa<|ak fun E=>ay<|E<|az fun G=>ak fun I=>au (.slice a n c)<|p (pV qp aa aa)<|nl<|I<|cb aa (fun A=> ?_) fun A=> ?_
 have Y:a=none:=by simpa using A
 refine ak fun i=>ay<|i<|rt<|tr<|ba aa ?_
 have Z:=V Y
 subst Z
 obtain rfl :=gr (show xs.length=0 by omega)
 exact ⟨dJ _ _ _ _,Md.refl _ _⟩
 refine aO<|G<|ak fun i=>e<|pM qi fun aj aq al q J=> ?_
 have C:=J w.heap.size ab
 refine au (.slice a n c)<|e<|ap qi (C) aa (by have :=q.size; omega) aa (M.wk q.md) (ad) (h1) ab ab fun ah ai ac U an am=> ?_
 have O:=Wk.own q.md C U<|cw _
 refine ay<|i<|rt<|ba aa ?_
 have ae:bp ai w.heap.size 77 7 ah n xs:=by simpa using ac
 exact ⟨ae,O⟩
theorem JG (v:Value) (n:Nat) (xs:List Value) (w:World) (A:Rd w.heap v n 7 xs) (h1:xs.all eW=true) (hn:n≤1048576):bd ao 52 [v].toArray w (fun v w'=>bp w' w.heap.size 77 7 v n xs∧Wk w w'):=by
 obtain ⟨a,c,rfl,i,C,q⟩:=A
 exact JH a n c xs w i C q h1 hn
theorem JD (a:Option Addr) (n c:Nat) (xs:List Value) (w:World) (M:aE w.heap a xs) (ad:xs.length=n*2) (V:a=none→n=0) (h1:xs.all eW=true) (hn:n≤1048576):
 bd ao 90 (a7 [.slice a n c]) w (fun ag w'=>bp w' w.heap.size 72 2 ag n xs∧Wk w w'):=by
 refine enter func90 aa ntmps90 aa<|ak fun E=>ay<|E<|az fun G=>ak fun I=>au (.slice a n c)<|p (pV uR aa aa)<|nl<|I<|cb aa (fun A=> ?_) fun A=> ?_
 have Y:a=none:=by simpa using A
 refine ak fun i=>ay<|i<|rt<|tr<|ba aa ?_
 have Z:=V Y
 subst Z
 obtain rfl :=gr (show xs.length=0 by omega)
 exact ⟨dJ _ _ _ _,Md.refl _ _⟩
 refine aO<|G<|ak fun i=>e<|pM uH fun aj aq al q J=> ?_
 have C:=J w.heap.size ab
 refine au (.slice a n c)<|e<|ap uH (C) aa (by have :=q.size; omega) aa (M.wk q.md) (ad) (h1) ab ab fun ah ai ac U an am=> ?_
 have O:=Wk.own q.md C U<|cw _
 refine ay<|i<|rt<|ba aa ?_
 have ae:bp ai w.heap.size 72 2 ah n xs:=by simpa using ac
 exact ⟨ae,O⟩
theorem JC (v:Value) (n:Nat) (xs:List Value) (w:World) (A:Rd w.heap v n 2 xs) (h1:xs.all eW=true) (hn:n≤1048576):bd ao 90 [v].toArray w (fun v w'=>bp w' w.heap.size 72 2 v n xs∧Wk w w'):=by
 obtain ⟨a,c,rfl,i,C,q⟩:=A
 exact JD a n c xs w i C q h1 hn
theorem th (B fb mc:Nat) (F:aG) (V:dQ) (w:World) (aM:cK w B fb mc F V) (dT:F.c6.length+F.aliases.length+F.bu.length+F.rules.length≤70000) (bU:Nx F):
 bd ao 20 (a7 [aW fb]) w (fun v w'=>(∃ bA,v= .agg (jW F bA).toArray∧m3 w' w.heap.size F bA)∧Wk w w'):=by
 refine enter func20 aa ntmps20 aa<|ak fun co=>e<|gx Fw fun bc Z dV bh bD=> ?_
 have dZ:=bh.size
 have ai:=aM.wk bh.md
 refine nl<|co<|az fun cw=>ak fun cy=>au (aW fb)<|p (lU sw aa aa)<|nl<|cy<|cf (aa)<|aO<|cw<|ak fun cA=>au (aW fb)<|p (nc aa) ?_
 refine p (fa fj aa)<|p (cz vM aa (aa) (show ∀ j,j < 13→Hb.aI Z.heap fb (0 +j)=(jW F V)[j]? from fun j aT=>(aY ai.cells).trans<|by match j,aT with | 0,_=>rfl | 1,_=>rfl | 2,_=>rfl | 3,_=>rfl | 4,_=>rfl | 5,_=>rfl | 6,_=>rfl | 7,_=>rfl | 8,_=>rfl | 9,_=>rfl | 10,_=>rfl | 11,_=>rfl | 12,_=>rfl))<|e<|gx Fw fun Y C dW bL cJ=> ?_
 have d2:=bL.size
 refine e<|gi xc aa aa aa (Hz ai) cJ aw fun a4 bK cL=> ?_
 have bE:Wk Z a4:=bL.md.trans' bK fun q a h=>by omega
 have d3:=bK.size
 have cT:=ai.wk bE
 have aQ:a4.heap[Y]? =some (.cells (jW F ⟨V.v9,V.v10,V.v11,V.v12,V.sa,V.rn⟩).toArray 58 (0,0)):=cL
 refine nl<|cA<|ak fun cB=>p (fa tY aa)<|p (ld Ad aa<|(aY aQ).trans aa)<|e<|cl IZ (JE V.v9 F.c6.length (lZ F.c6) a4 (Rd.j8 cT.o9) (Ch (fun _=>rfl) _) ab) aa fun O ch cW=> ?_
 obtain ⟨bX,bf⟩:=cW
 have dY:=bf.size
 have b0:=eS bX (show C.heap.size≤a4.heap.size by omega)
 refine p (fa tY aa)<|e<|dF Bu aa aa (v:=O) (ej bX) (bf.aB aQ) (by show _ < 13; omega) fun a5 bg cM=> ?_
 have bG:Wk Z a5:=(bE.trans bf).trans' bg fun q a h=>by omega
 have d4:=bg.size
 have cV:=ai.wk bG
 have b1:=cx b0 bg fun q a h=>by have :=(dd b0 a).1; omega
 have bQ:a5.heap[Y]? =some (.cells (jW F ⟨O,V.v10,V.v11,V.v12,V.sa,V.rn⟩).toArray 58 (0,0)):=cM
 refine nl<|cB<|ak fun cC=>p (fa p6 aa)<|p (ld tj aa<|(aY bQ).trans aa)<|e<|cl I0 (JA V.v11 F.bu.length (lg F.bu) a5 (Rd.j8 cV.fz) (Ch (fun _=>rfl) _) ab) aa fun v20 ec cY=> ?_
 obtain ⟨b3,aA⟩:=cY
 have d0:=aA.size
 have b4:=eS b3 (show C.heap.size≤a5.heap.size by omega)
 refine p (fa p6 aa)<|e<|dF Bw aa aa (v:=v20) (ej b3) (aA.aB bQ) (by show _ < 13; omega) fun a8 aP cN=> ?_
 have bH:Wk Z a8:=(bG.trans aA).trans' aP fun q a h=>by omega
 have d6:=aP.size
 have bJ:=ai.wk bH
 have b2:=cx (aX b1 aA) aP fun q a h=>by have :=(dd (aX b1 aA) a).1; omega
 have b5:=cx b4 aP fun q a h=>by have :=(dd b4 a).1; omega
 have bR:a8.heap[Y]? =some (.cells (jW F ⟨O,V.v10,v20,V.v12,V.sa,V.rn⟩).toArray 58 (0,0)):=cN
 refine nl<|cC<|ak fun cD=>p (fa ng aa)<|p (ld oA aa<|(aY bR).trans aa)<|e<|cl I1 (JI V.v10 F.aliases.length V.sa a8 (Rd.j8 bJ.fZ) (vO bJ.al) ab) aa fun v24 ed cZ=> ?_
 obtain ⟨b6,an⟩:=cZ
 have d1:=an.size
 have b7:=eS b6 (show C.heap.size≤a8.heap.size by omega)
 refine p (fa ng aa)<|e<|dF Bv aa aa (v:=v24) (ej b6) (an.aB bR) (by show _ < 13; omega) fun cm aD cO=> ?_
 have cS:Wk Z cm:=(bH.trans an).trans' aD fun q a h=>by omega
 have d7:=aD.size
 have dt:=cx (aX b2 an) aD fun q a h=>by have :=(dd (aX b2 an) a).1; omega
 have dk:=cx (aX b5 an) aD fun q a h=>by have :=(dd (aX b5 an) a).1; omega
 have bV:=cx b7 aD fun q a h=>by have :=(dd b7 a).1; omega
 have bS:cm.heap[Y]? =some (.cells (jW F ⟨O,v24,v20,V.v12,V.sa,V.rn⟩).toArray 58 (0,0)):=cO
 obtain ⟨ac,ae,rfl⟩:=cU bV
 have dL:=aM.al.1
 refine nl<|cD<|az fun cE=>ak fun cF=>p (fa ng aa)<|p (ld oA aa<|(aY bS).trans aa)<|p (bO uQ aa aa)<|p mv<|nl<|cF<|aB<|lp (fun ax av E=> ∃ (i:Nat) (sa:List Value),(i≤F.aliases.length)∧(sa.length=F.aliases.length)∧(sa.drop i=V.sa.drop i)∧(dm E C.heap.size 51 (sa.take i)<|F.aliases.take i)∧(bp E C.heap.size 70 1 (.slice ac F.aliases.length ae) F.aliases.length<|sa)∧(bp E C.heap.size 128 2 (O) F.c6.length<|lZ F.c6)∧(bp E C.heap.size 131 5 (v20) F.bu.length<|lg F.bu)∧(E.heap[Y]? =some (.cells (jW F ⟨O,.slice ac F.aliases.length ae,v20,V.v12,V.sa,V.rn⟩).toArray 58 (0,0)))∧(Wk Z E)∧(C.heap.size≤E.heap.size)∧(av 2=aW bc)∧(av 3=aW Y)∧(av 27= .slice ac F.aliases.length ae)∧(av 28=aj (F.aliases.length))∧(av 29=aj i)∧(F.aliases.length - i=ax)) _ ⟨0,V.sa,ab,dL,aa,(dm.nil _ _ _),bV,dt,dk,bS,cS,(ab),aa,aa,aa,aa,aa,aa⟩ ?_
 rintro ax av E ⟨i,sa,hi,aJ,cb,bq,M,a2,a0,aF,aL,d8,dz,dG,dA,dD,dE,rfl⟩
 refine fx 2 dz<|fx 3 dG<|fx 27 dA<|fx 28 dD<|fx 29 dE<|ak fun cp=>p (lt aa aa)<|nl<|cp<|az fun cq=>cd aa (fun aQ=> ?_) fun aQ=> ?_
 refine aO<|cq<|az fun a9=>aB<|az fun ba=> ?_
 obtain ⟨eb,dM,bk⟩:=dm.get (ai.wk aL).al (show i < F.aliases.length by omega)
 obtain ⟨cG,ci,rfl⟩:=bk.slice
 refine rg aa<|au (aj i)<|p (a6 xm aa aa ab<|aE.ok ((aV M).2) fun h=>by rw [h] at aJ; simp at aJ; omega)<|p (ld k8 aa<|aE.jj (aV M).2<|(xg cb).trans dM)<|p (bZ (aj i) aa)<|ay<|ba ?_
 have am:(fun w'=>Wk E w') E.drew:=(Md.refl _ _).drew
 refine eB (fun w'=>Wk E w') 6 aa wide am<|lq 0 aa ag (fun _ _=>fa ng aa) am<|lq 1 aa ag (fun w' ar=>ld oA aa<|Wk.aI ar<|(aY aF).trans aa) am<|lq 2 aa ag (fun _ _=>aH (aj i) aa) am<|lq 3 aa ag (fun _ _=>mv) am<|iY 4 aa ag<|cl oF (pO cG (F.aliases.getD i []).length ci ((F.aliases.getD i []).map aR) E.drew (aE.wk bk.dq.2 am) (by simp) (fun h=>Tg.qe bk (by simp) h) (pJ _)<|by have :=bU.1 _ (e6 (d:= []) (show i < F.aliases.length by omega)); omega) aa fun dO ck c0=> ?_
 obtain ⟨bs,bF⟩:=c0
 have G:Wk E ck:=am.trans bF
 have c3:=G
 have bM:(fun w'=>Wk E w') ck:=am.trans bF
 refine ⟨bM,?_⟩
 refine lq 5 aa ag (fun _ _=>a6 xm aa aa ab<|aE.ok ((aV M).2) fun h=>by rw [h] at aJ; simp at aJ; omega) bM<|c5 6 aa ag ag<|qk (j:=i) (aX M G) pQ aa aa (ej bs) (by simp) ab fun dR ap df=> ?_
 have cP:Wk Z dR:=Wk.own (aL.trans G) (aX M G) ap ab
 have dn:=cx (eS bs (show C.heap.size≤E.heap.size by omega)) ap fun q a=>mJ bs (aX M G) aw a
 have c7:=(bq.wk G).md ap<|iQ (aX M G) aw
 have dr:=cx (aX a2 G) ap fun q a=>mJ (aX a2 G) (aX M G) aw a
 have di:=cx (aX a0 G) ap fun q a=>mJ (aX a0 G) (aX M G) aw a
 have db:=ap.aB (Wk.aB G aF) fun h=>by have :=(dd (aX M G) h).1; omega
 exact eA ag<|bn<|a9<|rg aa<|p (ad aa aa<|cg ab)<|p mv<|nl<|tn<|⟨_,ab,i+1,sa.set i dO,ab,(by rw [sS]; exact aJ),(set_drop cb),(Ai c7 ab ab<|Tg.j8 dn),df,dr,di,db,cP,(by have :=c3.size; have :=ap.size; omega),aa,aa,aa,aa,aa,aa⟩
 refine ext<|bj<|bj<|be<|cE<|ak fun a9=>p (fa lV aa)<|p (ld kh aa<|(aY aF).trans aa)<|e<|cl I2 (JG V.v12 F.rules.length (eC<|F.rules.zip V.rn) E (Rd.j8 (ai.wk aL).ea) (Qg aM.nx) ab) aa fun cc ee c1=> ?_
 obtain ⟨b8,U⟩:=c1
 have d5:=U.size
 have b9:=eS b8 (show C.heap.size≤E.heap.size by omega)
 rw [fq ab,fq ab] at bq
 refine p (fa lV aa)<|e<|dF Bx aa aa (v:=cc) (ej b8) (Wk.aB U aF) (by show _ < 13; omega) fun ce aq cH=> ?_
 have cQ:Wk Z ce:=(aL.trans U).trans' aq fun q a h=>by omega
 have dX:=aq.size
 have du:=cx (aX a2 U) aq fun q a h=>by have :=(dd (aX a2 U) a).1; omega
 have dh:=cx (aX M U) aq fun q a h=>by have :=(dd (aX M U) a).1; omega
 have dl:=cx (aX a0 U) aq fun q a h=>by have :=(dd (aX a0 U) a).1; omega
 have bW:=cx b9 aq fun q a h=>by have :=(dd b9 a).1; omega
 have c9:=(bq.wk U).md aq<|gz (Wk.aB U aF) aw
 have bP:ce.heap[Y]? =some (.cells (jW F ⟨O,.slice ac F.aliases.length ae,v20,cc,V.sa,V.rn⟩).toArray 58 (0,0)):=cH
 obtain ⟨a12,ki,rfl⟩:=cU bW
 have dx:V.rn.length=F.rules.length:=by have :=aM.nx.1; rwa [eX] at this
 refine nl<|a9<|az fun ba=>ak fun cr=>p (fa lV aa)<|p (ld kh aa<|(aY bP).trans aa)<|p (bO qp aa aa)<|p mv<|nl<|cr<|aB<|lp (fun ax aK A=> ∃ (i:Nat) (rn:List Value),(i≤F.rules.length)∧(rn.length=F.rules.length)∧(rn.drop i=V.rn.drop i)∧(dm A C.heap.size 51 (rn.take i)<|(F.rules.map (·.next)).take i)∧(bp A C.heap.size 77 7 (.slice a12 F.rules.length ki) F.rules.length<|eC<|F.rules.zip rn)∧(bp A C.heap.size 128 2 (O) F.c6.length<|lZ F.c6)∧(bp A C.heap.size 70 1 (.slice ac F.aliases.length ae) F.aliases.length<|sa)∧(dm A C.heap.size 51 sa F.aliases)∧(bp A C.heap.size 131 5 (v20) F.bu.length<|lg F.bu)∧(A.heap[Y]? =some (.cells (jW F ⟨O,.slice ac F.aliases.length ae,v20,.slice a12 F.rules.length ki,V.sa,V.rn⟩).toArray 58 (0,0)))∧(Wk Z A)∧(C.heap.size≤A.heap.size)∧(aK 2=aW bc)∧(aK 3=aW Y)∧(aK 47=aj (F.rules.length))∧(aK 48=aj i)∧(F.rules.length - i=ax)) _ ⟨0,V.rn,ab,dx,aa,(dm.nil _ _ _),bW,du,dh,c9,dl,bP,cQ,(ab),aa,aa,aa,aa,aa⟩ ?_
 rintro ax aK A ⟨i,rn,hi,dy,ca,br,I,a3,aZ,bN,a1,aS,aC,d9,dH,dI,dJ,dK,rfl⟩
 refine fx 2 dH<|fx 3 dI<|fx 47 dJ<|fx 48 dK<|ak fun ct=>p (lt aa aa)<|nl<|ct<|az fun cu=>cd aa (fun da=> ?_) fun da=> ?_
 refine aO<|cu<|az fun bb=>aB<|az fun cv=> ?_
 obtain ⟨vn,dN,bo⟩:=dm.get (ai.wk aC).nx (show i < (F.rules.map (·.next)).length by rw [eX]; omega)
 obtain ⟨bB,bC,rfl⟩:=bo.slice
 obtain ⟨q,bv⟩:∃ q,F.rules[i]? =some q:=⟨_,cj ab⟩
 have dw:(F.rules.map (·.next)).getD i []=q.next:=by rw [cX,gu,bv]; rfl
 have dv:=bU.2 q<|gV bv
 rw [← dw] at dv
 have bx:(F.rules.zip rn)[i]? =some (q,.slice bB ((F.rules.map (·.next)).getD i []).length bC):=iR.2 ⟨bv,(xg ca).trans dN⟩
 refine rg aa<|au (aj i)<|p (bZ (aj i) aa)<|nl<|cv ?_
 have J:(fun w'=>Wk A w') A.drew:=(Md.refl _ _).drew
 refine eB (fun w'=>Wk A w') 12 aa wide J<|bz 0 aa (fun _=>fa lV aa) (fun _=>J)<|dU 1 aa (fun w' ar=>ld kh aa<|Wk.aI ar<|(aY aS).trans aa) J<|bl 2 aa (aj i) J<|bz 3 aa (fun _=>fa lV aa) (fun _=>J)<|dU 4 aa (fun w' ar=>ld kh aa<|Wk.aI ar<|(aY aS).trans aa) J<|bl 5 aa (aj i) J<|bz 6 aa (fun _=>a6 km aa aa ab<|aE.ok ((aV I).2)<|kT bx) (fun _=>J)<|bz 7 aa (fun _=>fa nS aa) (fun _=>J)<|dU 8 aa (fun w' ar=>ld k8 aa<|Wk.aI ar<|gn (f:=dC) (m:=7) (fun _=>rfl) (aV I).2 bx 6 aw) J<|iY 9 aa ag<|cl oF (pO bB ((F.rules.map (·.next)).getD i []).length bC (((F.rules.map (·.next)).getD i []).map aR) A.drew (aE.wk bo.dq.2 J) (by simp) (fun h=>Tg.qe bo (by simp) h) (pJ _) ab) aa fun dP cn c2=> ?_
 obtain ⟨bt,bI⟩:=c2
 have c:Wk A cn:=J.trans bI
 have c4:=c
 have bi:(fun w'=>Wk A w') cn:=J.trans bI
 refine ⟨bi,?_⟩
 refine bz 10 aa (fun _=>a6 km aa aa ab<|aE.ok ((aV I).2)<|kT bx) (fun _=>bi)<|bz 11 aa (fun _=>fa nS aa) (fun _=>bi)<|c5 12 aa ag ag<|qk (j:=i*7 +6) (aX I c) pQ aa aa (ej bt) (by rw [jv]; omega) ab fun ch ah bY=> ?_
 rw [Qh ab ab] at bY
 have cR:Wk Z ch:=Wk.own (aC.trans c) (aX I c) ah ab
 have dp:=cx (eS bt (show C.heap.size≤A.heap.size by omega)) ah fun q a=>mJ bt (aX I c) aw a
 have de:=(br.wk c).md ah<|iQ (aX I c) aw
 have c8:=(bN.wk c).md ah<|iQ (aX I c) aw
 have ds:=cx (aX a3 c) ah fun q a=>mJ (aX a3 c) (aX I c) aw a
 have dg:=cx (aX aZ c) ah fun q a=>mJ (aX aZ c) (aX I c) aw a
 have dj:=cx (aX a1 c) ah fun q a=>mJ (aX a1 c) (aX I c) aw a
 have dc:=ah.aB (Wk.aB c aS) fun h=>by have :=(dd (aX I c) h).1; omega
 exact eA ag<|bn<|bb<|rg aa<|p (ad aa aa<|cg ab)<|p mv<|nl<|tn<|⟨_,ab,i+1,rn.set i dP,ab,(by rw [sS]; exact dy),(set_drop ca),(Ai de (by rw [eX]; omega) ab<|Tg.j8 dp),bY,ds,dg,c8,dj,dc,cR,(by have :=c4.size; have :=ah.size; omega),aa,aa,aa,aa,aa⟩
 refine ext<|bj<|bj<|be<|ba<|ak fun bb=>p (cz vM aa (aa) (show ∀ j,j < 13→Hb.aI A.heap Y (0 +j)=(jW F ⟨O,.slice ac F.aliases.length ae,v20,.slice a12 F.rules.length ki,V.sa,V.rn⟩)[j]? from fun j aT=>(aY aS).trans<|by match j,aT with | 0,_=>rfl | 1,_=>rfl | 2,_=>rfl | 3,_=>rfl | 4,_=>rfl | 5,_=>rfl | 6,_=>rfl | 7,_=>rfl | 8,_=>rfl | 9,_=>rfl | 10,_=>rfl | 11,_=>rfl | 12,_=>rfl))<|e<|gi xc aa aa aa (vQ (ej a3) (ej aZ) (ej a1)<|ej I) (Wk.aB aC bD) aw fun dS aN cI=>nl<|bb<|rt<|rG aa (dB (cs:=jW F ⟨O,.slice ac F.aliases.length ae,v20,.slice a12 F.rules.length ki,V.sa,V.rn⟩) aa vM aa fun j aT=>(bw.bm ⟨_,cI⟩ j).trans aa) ?_
 have aU:∀ {t s n:Nat} {v:Value} {xs:List Value},bp A C.heap.size t s v n xs→bp dS w.heap.size t s v n xs:=fun h=>eS (cx h aN fun q a h2=>by have :=(dd h a).1; omega) ab
 rw [fq ab,fq (by rw [eX]; omega)] at br
 have bT:∀ k,k=bc→∀ cur z,A.heap[k]?≠some (.cells cur 51 z):=gz (Wk.aB aC bD) aw
 exact ⟨⟨⟨O,.slice ac F.aliases.length ae,v20,.slice a12 F.rules.length ki,sa,rn⟩,aa,⟨aU a3,aU aZ,(bN.md aN bT).mono ab,aU a1,aU I,(br.md aN bT).mono ab⟩⟩,(bh.md.trans aC).trans' aN fun q a h=>by omega⟩
end Go.Hb.iT
section
namespace Go.Hb
open Go.Hb.je Go.Hb.iT
noncomputable def kp (r:List Tx):Nat×Int:=if r.length≠1 then (0,111) else eR (r.getD 0 []) 8192
def GU (c w':World) (X:Except Nat bo) (v:Value):Prop :=(∃ x a,X= .ok x∧v= .tuple #[.agg [str x.1,a].toArray,.int .i64 (0:Nat)]∧bp w' c.heap.size 51 1 a x.2.length (x.2.map aR))∨(∃ e,X= .error e∧e≠0∧v= .tuple #[.agg [str [],.slice none 0 0].toArray,.int .i64 (e:Nat)])
theorem DM {s:Tx} {i:Nat} (hi:i < s.length):(s.take<|i+1).drop i= [s.getD i 0]:=by
 rw [yN 0 (cw i) hi,k0 (by rw [ec]; omega),List.nil_append]
theorem E4 (b:UInt8):np [b]=gQ b:=by unfold np; rw [HU]; cases gQ b <;> rfl
theorem BC {F:aG} {x:Nat} (h:(dx F.bu x).isSome=true∨x∈F.sp):dS F x=true :=by
 unfold dS; rcases h with h | h
 · rw [h,Bool.or_true]
 · rw [decide_eq_true h]; rfl
theorem KP {F:aG} {x:Nat} (h:(dx F.bu x).isSome=false) (h1:x∉F.sp):dS F x=false :=by
 unfold dS; rw [h,decide_eq_false h1]; rfl
theorem QO {F:aG} (h:F.sp.length=5):[F.sp.getD 0 0,F.sp.getD 1 0,F.sp.getD 2 0,F.sp.getD 3 0,F.sp.getD 4 0]=F.sp:=by
 match F.sp,h with
 | [a,b,c,d,e],_=>rfl
theorem Nr (a:Option Addr) (c:Nat) (l:List Nat) (x:Nat) (w:World) (E:aE w.heap a (l.map aR)) (aq:l.length≤1048576):
 bd ao 206 (a7 [.slice a l.length c,aR x]) w (fun v w'=>(∃ k:Int,v= .int .i64 k∧(0≤k↔x∈l)∧ -1≤k∧k≤1048576)∧Wk w w'):=by
 refine enter func206 aa ntmps206 aa<|ak fun O=>ay<|O<|az fun U=>ak fun V=>au (.slice a l.length c)<|p (bO mN aa aa)<|p mv<|nl<|V<|aB<|lp (fun C q M=> ∃ (i:Nat),(i≤l.length)∧(∀ j,j < i→l.getD j 0≠x)∧(M=w)∧(q 0= .slice a l.length c)∧(q 1=aR x)∧(q 7=aj (l.length))∧(q 8=aj i)∧(l.length - i=C)) _ ⟨0,ab,(fun j I=>by omega),aa,aa,aa,aa,aa,aa⟩ ?_
 rintro C q M ⟨i,hi,J,ah,al,am,an,ap,rfl⟩
 refine fx 0 al<|fx 1 am<|fx 7 an<|fx 8 ap ?_
 subst ah
 refine ak fun Y=>p (lt aa aa)<|nl<|Y<|az fun Z=>cd aa (fun ai=> ?_) fun ai=> ?_
 refine aO<|Z<|az fun A=>aB<|ak fun ac=>au (aj i)<|p (bZ (aj i) aa)<|nl<|ac<|ak fun ae=>au (aR x)<|au (.slice a l.length c)<|au (aj i)<|p (a6 bE aa aa ab<|aE.ok (E)<|cY ab)<|p (ld bP aa<|aE.jj E (show (l.map aR)[i]? =some (aR<|l.getD i 0) by rw [gu,cX,cj (by omega :i < l.length)]; rfl)) ?_
 refine p (bR aa aa)<|nl<|ae<|cd aa (fun G=> ?_) fun G=> ?_
 exact ak fun ag=>au (aj i)<|p (bZ (aj i) aa)<|nl<|ag<|rt<|br<|tr<|tr<|br<|tr<|ba aa<|⟨⟨(i:Nat),aa,⟨fun _=>by obtain rfl :x=l.getD i 0:=ab; exact e6 ab,fun _=>by omega⟩,ab,ab⟩,Md.refl _ _⟩
 exact aO<|bn<|A<|rg aa<|p (ad aa aa<|cg ab)<|p mv<|nl<|tn<|⟨_,ab,i+1,ab,(fun j I=>by rcases gI j i with h | h <;> first | exact J j h | (rw [show j=i by omega]; exact fun h2=>G<|by rw [h2])),aa,aa,aa,aa,aa,aa⟩
 exact ext<|bj<|bj<|be<|U<|ak fun A=>p aA<|nl<|A<|rt<|ba aa<|⟨⟨-1,aa,⟨fun h=>absurd h ab,fun h=>by obtain ⟨j,I,e⟩:=oR 0 h; exact absurd e<|J j ab⟩,ab,ab⟩,Md.refl _ _⟩
theorem Ki (a:Option Addr) (c:Nat) (l:List Nat) (x:Nat) (w:World) (A:aE w.heap a (l.map aR)) (G:l.length≤1048576):
 bd ao 142 (a7 [.slice a l.length c,aR x]) w (fun v w'=>v= .bool (decide (x∈l))∧Wk w w'):=by
 refine enter func142 aa ntmps142 aa<|ak fun i=>ay<|i<|ak fun q=>au (.slice a l.length c)<|au (aR x)<|e<|cl Ih (Nr a c l x w A G) aa fun M O C=> ?_
 obtain ⟨⟨I,rfl,E,J⟩,hE7⟩:=C
 exact p (ge aa aa)<|ay<|q<|rt<|ba aa<|⟨by show bQ (decide (I≥0))=_; exact congrArg bQ (decide_eq_decide.2 E),hE7⟩
theorem pR (ln er:Int) (w:World):
 bd ao 87 (a7 [.int .i64 ln,.int .i64 er]) w (fun v w'=>v= .agg [.int .i64 2,.int .i64 ln,.int .i64 er].toArray∧Wk w w'):=by
 exact enter func87 aa ntmps87 aa<|ak fun a=>e<|al mR fun G O I E A=>nl<|a<|ak fun c=>au (.int .i64 ln)<|au (.int .i64 er)<|p (cT (ps:= [(0,.int .i64 2),(1,.int .i64 ln),(2,.int .i64 er)]) (L:= [.int .i64 2,.int .i64 ln,.int .i64 er]) qj aa<|aa)<|e<|ca gY aa aa aa aa (A) (by simp) fun U C i=>nl<|c<|rt<|rG aa (dB (cs:= [.int .i64 2,.int .i64 ln,.int .i64 er]) aa jz aa fun j J=>i.bm j)<|⟨aa,E.md.trans' C fun q M h=>by omega⟩
theorem Lc (n:Nat) (r:List Tx) (B:Nat) (a:Option Addr) (c:Nat) (w:World) (U:Tg w B 9 r.length (.slice a r.length c) (r.map str)) (Y:∀ x∈r,x.length≤70000) (ae:r.length≤70000):
 bd ao 88 (a7 [.agg [aj n,.slice a r.length c].toArray]) w (fun v w'=>v= .tuple #[aj ((kp r).1),.int .i64 (kp r).2]∧Wk w w'):=by
 refine enter func88 aa ntmps88 aa<|ak fun G=>e<|iV aa fun ac Z ad A C=> ?_
 have E:=U.wk A.md
 refine p aA<|ay<|G<|az fun I=>ak fun J=>p (fa rM aa)<|p (ld oB aa<|(C.aI 1).trans aa)<|p (bO gU aa aa)<|p (fR aa aa)<|nl<|J<|cd aa (fun V=> ?_) fun V=> ?_
 refine ak fun q=>p aA<|ay<|q<|rt<|tr<|f2 aa aa aa ?_
 have h1:r.length≠1:=ab
 exact ⟨by unfold kp; rw [if_pos h1]; rfl,A.md⟩
 refine aO<|I<|ak fun q=>p (fa rM aa)<|p (ld oB aa<|(C.aI 1).trans aa)<|p (a6 dN aa aa ab<|aE.ok (E.dq.2)<|cY ab)<|p (ld cO aa<|da.get (i:=0) E.dq.2 ab)<|e<|cl tz (uk (r.getD 0 []) 8192 Z (by have :=Y _ (e6 (d:= []) (show 0 < r.length by omega)); omega) ab) aa fun v12 ag O=> ?_
 obtain ⟨rfl,M⟩:=O
 refine p (xt aa aa)<|p (xt aa aa)<|p aA<|ay<|q<|rt<|f2 aa aa aa ?_
 have h1:¬r.length≠1:=ab
 exact ⟨by unfold kp; rw [if_neg h1]; rfl,A.md.trans M⟩
theorem KX (B fb mc:Nat) (F:aG) (V:dQ) (n:Nat) (r:List Tx) (bz:Nat) (ar:Option Addr) (cr:Nat) (w:World) (a1:cK w B fb mc F V) (b8:∃ seen,jg F [] seen) (cz:Tg w bz 9 r.length (.slice ar r.length cr) (r.map str)) (cL:∀ x∈r,x.length≤70000) (dl:r.length≤70000):
 bd ao 89 (a7 [aW fb,.agg [aR (F.sp.getD 0 0),aR (F.sp.getD 1 0),aR (F.sp.getD 2 0),aR (F.sp.getD 3 0),aR (F.sp.getD 4 0)].toArray,.agg [aj n,.slice ar r.length cr].toArray]) w (fun v w'=>GU w w' (fw F r) v∧Wk w w'):=by
 obtain ⟨seen,aD⟩:=b8
 have dk:=aD.len
 have dp:=uW<|r.getD 0 []
 refine enter func89 aa ntmps89 aa<|ak fun bB=>e<|iV aa fun aT dE dh bo b5=>e<|iV aa fun dc dG di a2 b6=>e<|al lD fun bg bw dj aJ bh=> ?_
 have aF:Wk w bw:=bo.md.trans<|a2.md.trans aJ.md
 have cJ:=aJ.md.B<|a2.md.B b5
 have bv:=aJ.md.B b6
 have bq:=cz.wk aF
 have cc:=a1.wk aF
 have dt:=bo.size
 have du:=a2.size
 have dw:=aJ.size
 refine ay<|bB<|az fun bH=>ak fun bQ=>p (fa rM aa)<|p (ld oB aa<|(bv.aI 1).trans aa)<|p (bO gU aa aa)<|p (fR aa aa)<|nl<|bQ<|cd aa (fun cA=> ?_) fun cA=> ?_
 exact ak fun aQ=>p (cT (ps:= []) (L:= [.string ⟨⟨[]⟩⟩,.slice none 0 0]) lz aa<|aa)<|e<|ca gP aa aa aa aa (bh) (by simp) fun dU cp b4=>ay<|aQ<|rt<|tr<|ew aa (dB (cs:= [str [],.slice none 0 0]) aa jD aa fun j C=>b4.bm j) dX<|⟨.inr ⟨111,Lu ab,aw,aa⟩,aF.trans' cp fun q c h=>by omega⟩
 have J:r.length=1:=ab
 have dm:(r.getD 0 []).length≤70000:=cL _<|e6 ab
 refine aO<|bH<|ak fun aQ=>p (fa rM aa)<|p (ld oB aa<|(bv.aI 1).trans aa)<|p (a6 dN aa aa ab<|aE.ok (bq.dq.2)<|cY ab)<|p (ld cO aa<|da.get (i:=0) bq.dq.2 ab)<|e<|cl vY (y7 (r.getD 0 []) bw ab) aa fun v28 c8 ct=> ?_
 obtain ⟨rfl,am⟩:=ct
 have Z:=aF.trans am
 have ac:=am.B bh
 have ds:=am.size
 refine p mv<|p (xt aa aa)<|p (xt aa aa)<|p (xt aa aa)<|p (xt aa aa)<|p aA<|p aA<|p aA<|ay<|aQ<|az fun bR=>ak fun bS=>p mv<|p (fR aa aa)<|nl<|bS<|cd aa (fun cB=> ?_) fun cB=> ?_
 exact ak fun aS=>p (cT (ps:= []) (L:= [.string ⟨⟨[]⟩⟩,.slice none 0 0]) lz aa<|aa)<|p mv<|e<|ca gP aa aa aa aa (ac) (by simp) fun dV cq b7=>ay<|aS<|rt<|tr<|ew aa (dB (cs:= [str [],.slice none 0 0]) aa jD aa fun j C=>b7.bm j) dX<|⟨.inr ⟨_,xi J ab,ab,aa⟩,Z.trans' cq fun q c h=>by omega⟩
 have Y:(bA<|r.getD 0 []).2.2.2=0:=ab
 refine aO<|bR<|az fun aS=>ak fun bT=>p mv<|p (dv u9 aa aa)<|p mv<|nl<|bT<|aB<|lp (fun ah E ax=> ∃ (i:Nat),(i≤(bA<|r.getD 0 []).1.length)∧(∀ j,j < i→gQ ((bA<|r.getD 0 []).1.getD j 0)=true)∧(Wk c8 ax)∧(E 0=aW fb)∧(E 4=aW aT)∧(E 6=aW bg)∧(E 8=str (bA<|r.getD 0 []).1)∧(E 9=str (bA<|r.getD 0 []).2.1)∧(E 10= .bool (bA<|r.getD 0 []).2.2.1)∧(E 38=aj ((bA<|r.getD 0 []).1.length))∧(E 39=aj i)∧((bA<|r.getD 0 []).1.length - i=ah)) _ ⟨0,ab,(fun j C=>by omega),(Md.refl _ _),aa,aa,aa,aa,aa,aa,aa,aa,aa⟩ ?_
 rintro ah E ax ⟨i,hi,bt,A,cM,cR,cS,cV,cW,cN,cP,cQ,rfl⟩
 refine fx 0 cM<|fx 4 cR<|fx 6 cS<|fx 8 cV<|fx 9 cW<|fx 10 cN<|fx 38 cP<|fx 39 cQ<|ak fun bU=>p (lt aa aa)<|nl<|bU<|az fun bD=>cd aa (fun cC=> ?_) fun cC=> ?_
 refine aO<|bD<|az fun aL=>aB<|ak fun aM=>au (aj i)<|p (bZ (aj i) aa)<|nl<|aM<|ak fun ae=>au (str (bA<|r.getD 0 []).1)<|au (aj i)<|au (aj i)<|p (ad aa aa<|cg ab)<|p (si u9 aa aa aa ab)<|e<|cl AA (E5 (((bA<|r.getD 0 []).1.take<|i+1).drop i) ax<|by rw [DM ab]; simp) aa fun dz dF cu=> ?_
 obtain ⟨rfl,b9⟩:=cu
 have bu:=DM (s:=(bA<|r.getD 0 []).1) (i:=i) ab
 have aY:=A.trans b9
 refine p (no aa)<|nl<|ae<|cb aa (fun a5=> ?_) fun a5=> ?_
 have ba:gQ ((bA<|r.getD 0 []).1.getD i 0)=false :=by rw [← E4,← bu]; simpa using a5
 exact ak fun ag=>p (cT (ps:= []) (L:= [.string ⟨⟨[]⟩⟩,.slice none 0 0]) lz aa<|aa)<|e<|ca gP aa aa aa aa (Wk.B aY ac) (by simp) fun dK ce bV=>ay<|ag<|rt<|br<|tr<|tr<|br<|tr<|ew aa (dB (cs:= [str [],.slice none 0 0]) aa jD aa fun j C=>bV.bm j) dX<|⟨.inr ⟨21,BL J Y (.inl<|tw ab ba),aw,aa⟩,(Z.trans aY).trans' ce fun q c h=>by omega⟩
 have ba:gQ ((bA<|r.getD 0 []).1.getD i 0)=true :=by rw [← E4,← bu]; simpa using a5
 exact aO<|bn<|aL<|rg aa<|p (ad aa aa<|cg ab)<|p mv<|nl<|tn<|⟨_,ab,i+1,ab,(fun j C=>by rcases gI j i with h | h <;> first | exact bt j h | (rw [show j=i by omega]; exact ba)),aY,aa,aa,aa,aa,aa,aa,aa,aa,aa⟩
 refine ext<|bj<|bj<|be<|aS<|az fun aL=>aB<|az fun aM=>rg aa<|au (str (bA<|r.getD 0 []).1)<|p (iM aa aa)<|ay<|aM<|cd aa (fun U=> ?_) fun U=> ?_
 exact ak fun ae=>p (cT (ps:= []) (L:= [.string ⟨⟨[]⟩⟩,.slice none 0 0]) lz aa<|aa)<|e<|ca gP aa aa aa aa (Wk.B A ac) (by simp) fun dL ch bW=>ay<|ae<|rt<|br<|tr<|ew aa (dB (cs:= [str [],.slice none 0 0]) aa jD aa fun j C=>bW.bm j) dX<|⟨.inr ⟨21,BL J Y (.inr U),aw,aa⟩,(Z.trans A).trans' ch fun q c h=>by omega⟩
 have an:=tx (w:=(bA<|r.getD 0 []).1) fun j C=>bt j ab
 refine ak fun ae=>au (str (bA<|r.getD 0 []).1)<|p (dv u9 aa aa)<|p (gt aa aa)<|ay<|ae<|cd aa (fun cD=> ?_) fun cD=> ?_
 exact ak fun ag=>p (cT (ps:= []) (L:= [.string ⟨⟨[]⟩⟩,.slice none 0 0]) lz aa<|aa)<|e<|ca gP aa aa aa aa (Wk.B A ac) (by simp) fun dM ci bX=>ay<|ag<|rt<|br<|tr<|ew aa (dB (cs:= [str [],.slice none 0 0]) aa jD aa fun j C=>bX.bm j) dX<|⟨.inr ⟨22,Lv J Y an U ab,aw,aa⟩,(Z.trans A).trans' ci fun q c h=>by omega⟩
 refine ak fun ag=>au (.bool (bA<|r.getD 0 []).2.2.1)<|p (no aa)<|ay<|ag<|cb aa (fun ap=> ?_) fun ap=> ?_
 exact ak fun aN=>au (str (bA<|r.getD 0 []).1)<|p (cT (ps:= [(0,str (bA<|r.getD 0 []).1)]) (L:= [str (bA<|r.getD 0 []).1,.slice none 0 0]) lz aa<|aa)<|e<|ca gP aa aa aa aa (Wk.B A ac) (by simp) fun dO ck b0=>ay<|aN<|rt<|br<|tr<|ew aa (dB (cs:= [str (bA<|r.getD 0 []).1,.slice none 0 0]) aa jD aa fun j C=>b0.bm j) dX<|⟨.inl ⟨_,.slice none 0 0,Lw J Y an U ab (by simpa using ap),aa,dJ _ _ _ _⟩,(Z.trans A).trans' ck fun q c h=>by omega⟩
 refine aO<|bn<|aL<|ak fun aN=>au (aW fb)<|au (str (bA<|r.getD 0 []).2.1)<|e<|cl AB (BX B fb mc F V (bA<|r.getD 0 []).2.1 ax (cc.wk<|am.trans A) aD.kd aD.al ab ab) aa fun c7 bb cv=> ?_
 obtain ⟨cG,aZ⟩:=cv
 have aH:=Z.trans<|A.trans aZ
 have a4:=Wk.B (A.trans aZ) ac
 obtain ⟨c9,de,rfl,bs⟩:∃ a,∃ e:Nat,c7= .tuple #[a,aj e]∧((e=0∧∃ l,fy F.kind F.aliases (bA<|r.getD 0 []).2.1= .ok l∧bp bb ax.heap.size 51 1 a l.length (l.map aR))∨(e≠0∧fy F.kind F.aliases (bA<|r.getD 0 []).2.1= .error e)):=by
  rcases cG with ⟨a,l,h1,h2,h3⟩ | ⟨a,e,h1,h2,h3⟩
  exact ⟨a,0,h1,.inl ⟨aa,l,h2,h3⟩⟩
  exact ⟨a,e,h1,.inr ⟨h2,h3⟩⟩
 refine p mv<|p (xt aa aa)<|p (xt aa aa)<|p aA<|ay<|aN<|az fun bE=>ak fun bF=>p mv<|p (fR aa aa)<|nl<|bF<|cd aa (fun cE=> ?_) fun cE=> ?_
 obtain ⟨cI,aq⟩:=bs.resolve_left fun h=>by omega
 exact ak fun aP=>p (cT (ps:= []) (L:= [.string ⟨⟨[]⟩⟩,.slice none 0 0]) lz aa<|aa)<|p mv<|e<|ca gP aa aa aa aa (a4) (by simp) fun dP cm b1=>ay<|aP<|rt<|tr<|ew aa (dB (cs:= [str [],.slice none 0 0]) aa jD aa fun j C=>b1.bm j) dX<|⟨.inr ⟨_,Lx J Y an U ab (by simpa using ap) aq,cI,aa⟩,aH.trans' cm fun q c h=>by omega⟩
 obtain ⟨_,set,aq,av⟩:=bs.resolve_right fun h=>by omega
 obtain ⟨M,O,rfl⟩:=cU av
 have dn:=xy (fun l cH=>(aD.al l cH).1) aq
 refine aO<|bE<|az fun aP=>ak fun bG=>p mv<|p (bO ET aa aa)<|p mv<|nl<|bG<|aB<|lp (fun ah G bc=> ∃ (j:Nat),(j≤set.length)∧(∀ q,q < j→dS F (set.getD q 0)=true)∧(Wk bb bc)∧(G 0=aW fb)∧(G 4=aW aT)∧(G 6=aW bg)∧(G 8=str (bA<|r.getD 0 []).1)∧(G 13= .slice M set.length O)∧(G 75= .slice M set.length O)∧(G 76=aj (set.length))∧(G 77=aj j)∧(set.length - j=ah)) _ ⟨0,ab,(fun q c=>by omega),(Md.refl _ _),aa,aa,aa,aa,aa,aa,aa,aa,aa⟩ ?_
 rintro ah G bc ⟨j,C,a3,I,cZ,c1,c2,c6,c0,c3,c4,c5,rfl⟩
 refine fx 0 cZ<|fx 4 c1<|fx 6 c2<|fx 8 c6<|fx 13 c0<|fx 75 c3<|fx 76 c4<|fx 77 c5<|ak fun bI=>p (lt aa aa)<|nl<|bI<|az fun bJ=>cd aa (fun cF=> ?_) fun cF=> ?_
 refine aO<|bJ<|az fun aC=>aB<|ak fun bK=>p (a6 BO aa aa ab<|aE.ok ((aV<|aX av I).2)<|cY ab)<|p (ld bP aa<|aE.jj (aV<|aX av I).2 (show (set.map aR)[j]? =some (aR<|set.getD j 0) by rw [gu,cX,cj (by omega :j < set.length)]; rfl)) ?_
 refine ay<|bK<|ak fun bM=>au (aW fb)<|p mv<|e<|cl vX (xp B fb mc F V (set.getD j 0) bc (a1.wk<|aH.trans I) ab) aa fun dA dH cw=> ?_
 obtain ⟨rfl,bi⟩:=cw
 have dx:=bi.size
 have dy:=I.size
 refine p mv<|p (xt aa aa)<|p (xt aa aa)<|e<|al qz fun db dD dg bl bY=>e<|ca oG aa aa aa aa (bY) (by simp) fun bx cn df=> ?_
 have dr:=bl.size
 have ai:Wk bb bx:=(I.trans<|bi.trans bl.md).trans' cn fun q c h=>by omega
 refine ay<|bM<|ak fun bf=>p mv<|p (no aa)<|p mv<|gb (t:=89) aa (fun a9=> ?_) fun a9=> ?_
 refine aU aa (Hy q7 aa)<|aU aa mv<|eg aa aa aa<|cl H4 (Ki (some ⟨aT,0,none⟩) 5 [F.sp.getD 0 0,F.sp.getD 1 0,F.sp.getD 2 0,F.sp.getD 3 0,F.sp.getD 4 0] (set.getD j 0) bx (aE.fA<|Wk.B ((am.trans<|A.trans aZ).trans ai) cJ)<|by simp) aa fun dC dI cy=> ?_
 obtain ⟨rfl,a0⟩:=cy
 rw [QO a1.jb] at*
 refine aU aa (no aa)<|p (bL aa)<|nl<|bf<|cb aa (fun a8=> ?_) fun a8=> ?_
 exact ak fun bN=>p (cT (ps:= []) (L:= [.string ⟨⟨[]⟩⟩,.slice none 0 0]) lz aa<|aa)<|e<|ca gP aa aa aa aa (Wk.B (ai.trans a0) a4) (by simp) fun dR co b2=>ay<|bN<|rt<|br<|tr<|tr<|br<|tr<|ew aa (dB (cs:= [str [],.slice none 0 0]) aa jD aa fun j C=>b2.bm j) dX<|⟨.inr ⟨120,Lz J Y an U ab (by simpa using ap) aq (i:=j) ab (KP (by simpa using a9)<|by simpa using a8),aw,aa⟩,(aH.trans<|ai.trans a0).trans' co fun q c h=>by omega⟩
 exact aO<|bn<|aC<|rg aa<|p (ad aa aa<|cg ab)<|p mv<|nl<|tn<|⟨_,ab,j+1,ab,(fun q c=>by rcases gI q j with h | h <;> first | exact a3 q h | (rw [show q=j by omega]; exact BC<|.inr<|by simpa using a8)),(ai.trans a0),aa,aa,aa,aa,aa,aa,aa,aa,aa⟩
 exact aK aa<|aK aa<|aK aa<|aK aa<|p (bC aa)<|nl<|bf<|cf aa<|aO<|bn<|aC<|rg aa<|p (ad aa aa<|cg ab)<|p mv<|nl<|tn<|⟨_,ab,j+1,ab,(fun q c=>by rcases gI q j with h | h <;> first | exact a3 q h | (rw [show q=j by omega]; exact BC<|.inl<|by simpa using a9)),ai,aa,aa,aa,aa,aa,aa,aa,aa,aa⟩
 exact ext<|bj<|bj<|be<|aP<|ak fun aC=>au (str (bA<|r.getD 0 []).1)<|au (.slice M set.length O)<|p (cT (ps:= [(0,str (bA<|r.getD 0 []).1),(1,.slice M set.length O)]) (L:= [str (bA<|r.getD 0 []).1,.slice M set.length O]) lz aa<|aa)<|e<|ca gP aa aa aa aa (Wk.B I a4) (by simp) fun dT bk b3=>ay<|aC<|rt<|ew aa (dB (cs:= [str (bA<|r.getD 0 []).1,.slice M set.length O]) aa jD aa fun j C=>b3.bm j) dX<|⟨.inl ⟨((bA<|r.getD 0 []).1,set),.slice M set.length O,BM J Y an U ab (by simpa using ap) aq (fun j C=>a3 j ab),aa,eS (cx (aX av I) bk fun q c h=>by have :=(dd av c).1; have :=A.size; omega)<|by have :=A.size; omega⟩,(aH.trans I).trans' bk fun q c h=>by omega⟩
end Go.Hb
end
section
namespace Go.Hb.jU
open Go.Hb.je Go.Hb.iT Go.Hb.s6
theorem MN:xv ao 58 3=some (52,3):=ag
def oI (q:bo×Value):List Value:= [str q.1.1,q.2]
def jY (l:List (bo×Value)):List Value:=l.flatMap oI
theorem Ls (l:List (bo×Value)) (q:bo×Value):jY (l++ [q])=jY l++oI q:=by simp [jY]
theorem Lt (l:List (bo×Value)):(jY l).length=l.length*2:=nR (f:=oI) (m:=2) (fun _=>rfl) l
theorem oW {w:World} {B e size n k:Nat} {v:Value} {xs:List Value} (h:bp w B e size v n xs) (hk:v.ownBlock=some k) (i:∀ cur z,w.heap[k]?≠some (.cells cur e z)):False:=by
 rcases h.2 with ⟨rfl,rfl⟩ | ⟨g,cap,cur,rfl,_,c,_⟩
 · cases hk
 · have a:g=k:=by simpa [fT] using hk
   subst a
   exact i _ _ c
structure k4 (w:World) (B:Nat) (f:Value→Option Value) (xs:List bo):Prop where
 own:∀ s:Tx,bp w B 3 1 ((f<|str s).getD<|bB none 0 0) (idxs s xs).length ((idxs s xs).map gN)
 nil:∀ s:Tx,idxs s xs= []→(f<|str s).getD (bB none 0 0)=(bB none 0 0)
theorem k4.md {G:Nat→Prop} {w w':World} {B:Nat} {f:Value→Option Value} {xs:List bo} (h:k4 w B f xs) (hm:Md G w w') (a:∀ k,G k→∀ cur z,w.heap[k]?≠some (.cells cur 3 z)):k4 w' B f xs:=by
 refine ⟨fun s=> ?_,h.nil⟩
 refine cx (h.own s) hm fun k hk i=> ?_
 exact oW (h.own s) hk fun cur z c=>a k i cur z c
theorem yB {w:World} {B B' k n c:Nat} {v i:Value} {xs q:List Value} (h:bp w B 3 1 v n xs) (G:bp w B' 3 1 i c q) (hk:v.ownBlock=some k) (J:i.ownBlock=some k) (hn:0 < n) (Y:0 < c):xs[0]? =q[0]? :=by
 rcases h.2 with ⟨rfl,rfl⟩ | ⟨g,cap,cur,rfl,_,I,_,_,_,M⟩
 · omega
 · rcases G.2 with ⟨rfl,rfl⟩ | ⟨E,U,V,rfl,_,a,_,_,_,O⟩
   · omega
   · have A:g=k:=by simpa [fT] using hk
     have C:E=k:=by simpa [fT] using J
     subst A C
     rw [I] at a
     cases a
     rw [← M,← O,mg,mg,if_pos ab,if_pos ab]
theorem k4.sep {w:World} {B k:Nat} {f:Value→Option Value} {xs:List bo} {s t:Tx} (h:k4 w B f xs) (E:s≠t) (hs:((f<|str s).getD<|bB none 0 0).ownBlock=some k):((f<|str t).getD<|bB none 0 0).ownBlock≠some k:=by
 intro a
 have q:idxs s xs≠[]:=fun e=>by rw [h.nil s e] at hs; cases hs
 have A:idxs t xs≠[]:=fun e=>by rw [h.nil t e] at a; cases a
 have he:=yB (h.own s) (h.own t) hs a (mW.2 q)<|mW.2 A
 cases h1:idxs s xs with
 | nil=>exact q h1
 | cons i l=>
   cases h2:idxs t xs with
   | nil=>exact A h2
   | cons j m=>
     rw [h1,h2] at he
     have C:i=j:=by have h:=he; simp only [nD,vz,Option.some.injEq,gN,Value.int.injEq,true_and] at h; omega
     subst C
     have m1:i∈idxs s xs:=by rw [h1]; simp
     have c:i∈idxs t xs:=by rw [h2]; simp
     unfold idxs at m1 c
     have G:=of_decide_eq_true (Gu.1 m1).2
     have I:=of_decide_eq_true (Gu.1 c).2
     exact E<|G.symm.trans I
theorem k4.put {w i G:World} {B mb:Nat} {f:Value→Option Value} {xs:List bo} {x:bo} {v:Value} (h:k4 w B f xs) (hm:Md (fun k=>((f<|str x.1).getD<|bB none 0 0).ownBlock=some k) w i)
 (E:bp i B 3 1 v (idxs x.1 xs++ [xs.length]).length ((idxs x.1 xs++ [xs.length]).map gN)) (C:∀ cur z,i.heap[mb]?≠some (.cells cur 3 z)) (A:Md (fun k=>k=mb) i G):k4 G B (bD f (str x.1) v) (xs++ [x]):=by
 refine ⟨fun s=> ?_,fun s hs=> ?_⟩
 · by_cases a:x.1=s
   · subst a
     rw [r7,xY,if_pos rfl]
     exact cx E A fun k hk c=>oW E hk fun cur z q=>C cur z<|c ▸ q
   · rw [qh (fun e=>a (str_inj.1 e).symm),xY,if_neg a,eb]
     have h1:=cx (h.own s) hm fun k hk c=>h.sep a c hk
     exact cx h1 A fun k hk c=>oW h1 hk fun cur z q=>C cur z<|c ▸ q
 · rw [xY] at hs
   by_cases a:x.1=s
   · rw [if_pos a] at hs; simp at hs
   · rw [if_neg a,eb] at hs
     rw [qh (fun e=>a (str_inj.1 e).symm)]; exact h.nil s hs
structure jT (w:World) (B wb mb:Nat) (va:Value) (vs:List Value) (xs:List bo):Prop where
 cells:w.heap[wb]? =some (.cells [va,.map (some mb)].toArray 186 (0,0))
 own:bp w B 72 2 va xs.length (jY<|xs.zip vs)
 fl:dm w B 51 vs (xs.map (·.2))
 mp:∃ f,bU w.heap mb gD f∧k4 w B f xs
theorem jT.md {G:Nat→Prop} {w w':World} {B wb mb:Nat} {va:Value} {vs:List Value} {xs:List bo} (h:jT w B wb mb va vs xs) (hm:Md G w w') {L:List Nat} (a:TF w L G) (i:(L.contains 188 || L.contains 74 || L.contains 53 || L.contains 5)=false) (C:¬G mb):jT w' B wb mb va vs xs:=by
 simp only [n8] at i
 obtain ⟨⟨⟨h1,h2⟩,h3⟩,h4⟩:=i
 obtain ⟨f,q,A⟩:=h.mp
 exact ⟨hm.im a h.cells h1,cW h.own hm a h2,h.fl.md hm (fun k hk cur z c=>a.no (dt c) h3 hk),⟨f,q.md hm C,A.md hm fun k hk cur z c=>a.no (dt c) h4 hk⟩⟩
theorem jT.wk {w w':World} {B wb mb:Nat} {va:Value} {vs:List Value} {xs:List bo} (h:jT w B wb mb va vs xs) (hm:Wk w w'):jT w' B wb mb va vs xs:=h.md (L:= []) hm (fun _ hk=>hk.elim) rfl id
theorem La {F:aG} {t:Tx} {ln:Nat} {row:List Tx} {rows:List Rw} (h:¬65536 < t.length) (h1:et t=(ln,row)::rows) (h2:(kp row).2≠0):∃ e:Nat,(kp row).2=(e:Int)∧e5 F t= .error (ln,e):=by
 unfold kp at h2 ⊢
 by_cases a:row.length≠1
 · rw [if_pos a]; exact ⟨111,rfl,Ld h h1 a⟩
 · rw [if_neg a] at h2 ⊢
   have h3:=ui (s:=row.getD 0 []) (most:=8192) h2
   exact ⟨13,h3.2,Lh h h1 (lE.1 a) h3.1⟩
theorem Lb {F:aG} {t:Tx} {ln:Nat} {row:List Tx} {rows:List Rw} (h:¬65536 < t.length) (h1:et t=(ln,row)::rows) (h2:(kp row).2=0):∃ n:Nat,(kp row).1=n∧n≤8192∧e5 F t=ek F ((cV t).length+1) n rows:=by
 unfold kp at h2 ⊢
 by_cases a:row.length≠1
 · rw [if_pos a] at h2; cases h2
 · rw [if_neg a] at h2 ⊢
   exact ⟨_,aa,by have :=uh (row.getD 0 []) 8192 h2; omega,BH h h1 (lE.1 a)<|uj h2⟩
theorem EO {u:Tx} {a:Value} (h:a.oneCell'=true):[str u,a].all eW=true :=by rw [vu,vu,h]; rfl
def GV (l e:Nat):Value:= .agg [.int .i64 2,.int .i64 (l:Nat),.int .i64 (e:Nat)].toArray
def GS (w':World) (B0:Nat) (xs:List bo) (v:Value):Prop := ∃ B wb mb va vs,B0≤B∧v= .tuple #[.pointer (some ⟨wb,0,none⟩),.agg [.int .i64 0,.int .i64 0,.int .i64 0].toArray]∧jT w' B wb mb va vs xs∧B0≤wb∧B0≤mb
def GR (e:Nat×Nat) (v:Value):Prop :=v= .tuple #[.pointer none,GV e.1 e.2]
def kf (F:aG) (t:Tx) (w:World) (v:Value) (w':World):Prop :=(match e5 F t with | .ok xs=>GS w' w.heap.size xs v | .error e=>GR e v)∧Wk w w'
theorem kf.no {F:aG} {t:Tx} {w w':World} {l e:Nat} (h:e5 F t= .error (l,e)) (hm:Wk w w'):kf F t w (.tuple #[.pointer none,.agg [.int .i64 2,.int .i64 (l:Nat),.int .i64 (e:Nat)].toArray]) w':=by
 unfold kf; rw [h]; exact ⟨rfl,hm⟩
theorem Lk (B fb mc:Nat) (F:aG) (V:dQ) (t:Tx) (w:World) (cA:cK w B fb mc F V) (d0:∃ seen,jg F [] seen) (e4:Nx F) (hs:t.length≤1048576):
 bd ao 46 (a7 [aW fb,str t]) w (kf F t w):=by
 refine enter func46 aa ntmps46 aa<|ak fun dg=>p aA<|e<|gx mR fun bM fC fP cC cp=> ?_
 have co:bw fC.heap bM [.int .i64 0,.int .i64 0,.int .i64 0]:=⟨_,cp⟩
 refine nl<|dg<|az fun dq=>ak fun dv=>au (aW fb)<|p (lU sw aa aa)<|nl<|dv<|cf (aa)<|aO<|dq<|ak fun dw=>au (str t)<|e<|cl A3 (Eu t _ hs) aa fun gu cc ei=> ?_
 obtain ⟨⟨fH,rfl,cM⟩,hE22⟩:=ei
 have cy:=cC.md.trans hE22
 have gd:=cC.size
 refine p mv<|p (xt aa aa)<|p (xt aa aa)<|p aA<|ay<|dw<|az fun dx=>ak fun dy=>p mv<|p (fR aa aa)<|nl<|dy<|cd aa (fun b5=> ?_) fun b5=> ?_
 have cI:65536 < t.length:=qD fun h=>b5<|by rw [if_neg h]
 refine ak fun bG=>p mv<|e<|cl pN (pR 0 (if 65536 < t.length then 10 else 0) cc) aa fun v28 gG ek=> ?_
 obtain ⟨rfl,bP⟩:=ek
 have f9:=(hE22.trans bP).size
 refine p aA<|e<|ca gY aa aa aa aa (Wk.B (hE22.trans bP) co) (by simp) fun gX ec dW=>nl<|bG<|rt<|tr<|ew aa dX (dB (cs:= [.int .i64 2,.int .i64 0,.int .i64 (if 65536 < t.length then 10 else 0)]) aa jz aa fun j an=>dW.bm j) ?_
 have h:=kf.no (F:=F) (Lf cI)<|(cy.trans bP).trans' ec fun q C h=>by omega
 show kf F t w (.tuple #[.pointer none,.agg [.int .i64 2,.int .i64 0,.int .i64 (if 65536 < t.length then 10 else 0)].toArray]) _
 rw [if_pos cI]
 exact h
 have a8:¬65536 < t.length:=fun h=>b5<|by rw [if_pos h]; decide
 rw [if_neg a8] at cM
 obtain ⟨da,ci,rfl⟩:=cU cM
 have fW:=oQ t
 refine aO<|dx<|ak fun bG=>au (str t)<|e<|cl A2 (Ed t _ hs) aa fun v31 av el=> ?_
 obtain ⟨⟨a31,rfl,cL⟩,hE31⟩:=el
 rw [if_neg a8] at cL
 obtain ⟨dc,bu,bv⟩:=cL
 obtain ⟨ar,cr,rfl⟩:=cU bu
 have aC:=cy.trans hE31
 have aT:=Wk.B (hE22.trans hE31) co
 have ga:=(hE22.trans hE31).size
 have c7:=Eb t
 refine p mv<|p (xt aa aa)<|p (xt aa aa)<|p aA<|ay<|bG<|az fun dz=>ak fun dA=>p mv<|p (bO uO aa aa)<|p (bR aa aa)<|nl<|dA<|cd aa (fun b6=> ?_) fun b6=> ?_
 have e3:et t= []:=gr ab
 refine ak fun bx=>p mv<|p (bO gU aa aa)<|p (bI (((cV t).length+1:Nat):Int) aa aa<|bf ab ab)<|e<|cl pN (pR ((cV t).length+1:Nat) 116 av) aa fun v40 gH em=> ?_
 obtain ⟨rfl,bQ⟩:=em
 have gb:=bQ.size
 exact p aA<|e<|ca gY aa aa aa aa (Wk.B bQ aT) (by simp) fun gZ ed dY=>nl<|bx<|rt<|tr<|ew aa dX (dB (cs:= [.int .i64 2,aj ((cV t).length+1),.int .i64 116]) aa jz aa fun j an=>dY.bm j)<|kf.no (Lg a8 e3)<|(aC.trans bQ).trans' ed fun q C h=>by omega
 obtain ⟨⟨db,aP⟩,rest,U⟩:∃ q rest,et t=q::rest:=by
  cases h:et t with
  | nil=>rw [h] at b6; exact absurd rfl b6
  | cons q rest=>exact ⟨q,rest,rfl⟩
 have b9:=bv.1
 rw [U] at bu bv b9 c7
 obtain ⟨⟨aN,fu⟩,rvs',rfl⟩:∃ q cb,dc=q::cb:=by
  cases dc with
  | nil=>exact absurd b9<|by simp
  | cons q cb=>exact ⟨q,cb,rfl⟩
 obtain ⟨fd,c4⟩:=bv.2 0 (aN,fu) (db,aP) rfl rfl
 obtain rfl :aN=db:=fd
 obtain ⟨a0,dC,rfl⟩:=c4.slice
 have a3:=(aV bu).2
 have eS:=(aV bu).1
 have cR:∀ q∈(aN,aP)::rest,q.2.length≤70000∧∀ x∈q.2,x.length≤70000:=fun q C=>by
  have h:=Ec (show q∈et t by rw [U]; exact C)
  exact ⟨ab,fun x fq=>by have :=(h.2.2.2.2 x fq).2; omega⟩
 have cQ:=cR _<|pn ..
 simp only [bV] at b9 c7 eS
 refine aO<|dz<|ak fun bx=>p mv<|p (a6 pW aa aa (by rw [U]; simp only [bV]; omega)<|aE.ok (a3)<|uw<|by simp)<|p (cz ti aa (aa)<|ux (i:=0) a3 aa)<|e<|cl Jb (Lc aN aP cc.heap.size a0 dC av c4 cQ.2 cQ.1) aa fun gv fB en=> ?_
 obtain ⟨rfl,aF⟩:=en
 have gc:=aF.size
 refine p mv<|p (xt aa aa)<|p (xt aa aa)<|p aA<|ay<|bx<|az fun dh=>ak fun di=>p mv<|p (fR aa aa)<|nl<|di<|cd aa (fun cJ=> ?_) fun cJ=> ?_
 obtain ⟨fL,eU,b3⟩:=La (F:=F) a8 U cJ
 refine ak fun bA=>p mv<|p (a6 pW aa aa (by rw [U]; simp only [bV]; omega)<|aE.ok (a3.wk aF)<|uw<|by simp)<|p (fa tV aa)<|p (ld bK aa<|ux (i:=0) (a3.wk aF) aa 0 aw)<|p mv<|e<|cl pN (pR (aN:Nat) (kp aP).2 fB) aa fun gw gI eo=> ?_
 obtain ⟨rfl,bS⟩:=eo
 have ge:=bS.size
 refine p aA<|e<|ca gY aa aa aa aa (Wk.B (aF.trans bS) aT) (by simp) fun gQ d8 dH=>nl<|bA<|rt<|tr<|ew aa dX (dB (cs:= [.int .i64 2,aj aN,.int .i64 (kp aP).2]) aa jz aa fun j an=>dH.bm j) ?_
 have h:=kf.no b3<|(aC.trans<|aF.trans bS).trans' d8 fun q C h=>by omega
 show kf F t w (.tuple #[.pointer none,.agg [.int .i64 2,aj aN,.int .i64 (kp aP).2].toArray]) _
 rw [eU]
 exact h
 obtain ⟨n,cW,fX,b3⟩:=Lb (F:=F) a8 U (show (kp aP).2=0 by omega)
 have d7:=cA.wk<|aC.trans aF
 obtain ⟨seen,cq⟩:=d0
 have fU:=cq.len
 refine aO<|dh<|ak fun bA=>e<|rX fun Y gJ fQ b1 dT=> ?_
 have gf:=b1.size
 refine p (cT (ps:= [(1,.map (some Y))]) (L:= [.slice none 0 0,.map (some Y)]) QY aa<|aa)<|e<|ra aa fun E fD fS bi dV=> ?_
 have gg:=bi.size
 have d4:=aF.trans<|b1.md.trans bi.md
 refine ay<|bA<|ak fun dj=>au (aW fb)<|e<|cl tB (th B fb mc F V fD (d7.wk<|b1.md.trans bi.md) ab e4) aa fun gy gL ep=> ?_
 obtain ⟨⟨fG,rfl,_⟩,hE60⟩:=ep
 have gh:=hE60.size
 refine p (Mt MN Ac aa aa)<|e<|al Sl fun bH gB fN bg dI=> ?_
 have f1:=bg.size
 refine e<|ca KK aa aa aa aa (dI) (by simp) fun M bb dK=> ?_
 have d2:Wk av M:=(d4.trans<|hE60.trans bg.md).trans' bb fun q C h=>by omega
 have f3:=bb.size
 have eL:M.heap[E]? =some (.cells [.slice none 0 0,.map (some Y)].toArray 186 (0,0)):=bb.aB (Wk.aB (hE60.trans bg.md) dV) fun h=>by omega
 have e0:bU M.heap Y gD (fun _=>none):=bU.md (bU.wk (bU.nil dT)<|bi.md.trans<|hE60.trans bg.md) bb fun h=>by omega
 have ez:jT M M.heap.size E Y (.slice none 0 0) [] []:=⟨eL,dJ _ _ _ _,dm.nil _ _ _,⟨_,e0,⟨fun s=>dJ _ _ _ _,fun s _=>rfl⟩⟩⟩
 have eI:bw M.heap bH [aR (F.sp.getD 0 0),aR (F.sp.getD 1 0),aR (F.sp.getD 2 0),aR (F.sp.getD 3 0),aR (F.sp.getD 4 0)]:=dK
 have ct:aE av.heap (eM ar cr 1 2) (kU rvs'):=by
  have h:=a3.drop (cap:=cr) (k:=1) (size:=2)<|by rw [Ef]; simp only [bV]; omega
  exact h
 have eE:gK F ((cV t).length+1) (e5 F t) [] (n - 0) (rest.drop 0):=by rw [b3]; exact gK.start
 refine nl<|dj<|az fun dk=>ak fun dl=>p mv<|p (sh pW aa aa<|by rw [U]; simp only [bV]; omega)<|p (bO uO aa aa)<|p mv<|nl<|dl<|aB<|lp (fun cm ae ax=> ∃ (i:Nat) (xs:List bo) (vs:List Value) (va:Value),(i≤rest.length∧i≤n)∧(xs.length=i)∧(gK F ((cV t).length+1) (e5 F t) xs (n - i)<|rest.drop i)∧(jT ax M.heap.size E Y va vs xs)∧(Wk av ax)∧(bw ax.heap bH [aR (F.sp.getD 0 0),aR (F.sp.getD 1 0),aR (F.sp.getD 2 0),aR (F.sp.getD 3 0),aR (F.sp.getD 4 0)])∧(M.heap.size≤ax.heap.size)∧(ae 0=aW fb)∧(ae 5=aW bM)∧(ae 6= .slice da (cV t).length ci)∧(ae 10=aj n)∧(ae 11=aW E)∧(ae 12=aW bH)∧(ae 63= .slice (eM ar cr 1 2) rest.length (cr - 1))∧(ae 64=aj (rest.length))∧(ae 65=aj i)∧(rest.length - i=cm)) _ ⟨0,[],[],.slice none 0 0,ab,aa,eE,ez,d2,eI,(cw _),aa,aa,aa,(by first | rfl | (rw [← cW]; rfl)),aa,aa,(by first | rfl | (rw [U]; rfl)),(by first | rfl | (rw [U]; rfl)),aa,aa⟩ ?_
 rintro cm ae ax ⟨i,xs,vs,va,hi,c9,ah,aS,O,cG,gn,fe,fi,fj,ff,fg,fh,fk,fm,fo,rfl⟩
 refine fx 0 fe<|fx 5 fi<|fx 6 fj<|fx 10 ff<|fx 11 fg<|fx 12 fh<|fx 63 fk<|fx 64 fm<|fx 65 fo<|ak fun dn=>p (lt aa aa)<|nl<|dn<|az fun dp=>cd aa (fun eP=> ?_) fun eP=> ?_
 refine aO<|dp<|az fun bC=>aB<|az fun bD=> ?_
 obtain ⟨⟨ln,r⟩,hri⟩:∃ q,rest[i]? =some q:=⟨_,cj ab⟩
 have eT:rest.drop i=(ln,r)::rest.drop (i+1):=by rw [List.drop_eq_getElem_cons ab]; rw [cj ab] at hri; rw [Option.some.inj hri]
 obtain ⟨p,c6⟩:∃ p,rvs'[i]? =some p:=⟨_,cj ab⟩
 obtain ⟨dD,cF⟩:=bv.2 (i+1) p (ln,r) c6 hri
 obtain ⟨ft,gs⟩:=p
 obtain rfl :ln=ft:=dD.symm
 obtain ⟨a,c,rfl⟩:=cF.slice
 have cS:=cR (ln,r)<|List.mem_cons_of_mem _<|gV hri
 rw [eT] at ah
 refine rg aa<|au (aj i)<|p (a6 pW aa aa ab<|aE.ok (ct.wk O)<|uw ab)<|p (cz ti aa (aa)<|ux (ct.wk O) c6)<|e<|al Fu fun ch gE bq b0 dL=> ?_
 have f4:=b0.size
 refine p (bZ (aj i) aa)<|e<|ca Bp aa aa aa aa (dL) (by simp) fun aZ bY dM=> ?_
 have ba:Wk av aZ:=(O.trans b0.md).trans' bY fun q C h=>by omega
 have cu:Wk ax aZ:=b0.md.trans' bY fun q C h=>by omega
 have bq:bw aZ.heap ch [aj ln,.slice a r.length c]:=dM
 have f6:=bY.size
 refine nl<|bD<|az fun a1=>ak fun dr=>au (aj i)<|au (aj n)<|p (bR aa aa)<|nl<|dr<|cd aa (fun eQ=> ?_) fun eQ=> ?_
 refine ak fun bE=>p (fa tV aa)<|p (ld bK aa<|(bq.aI 0).trans aa)<|e<|cl pN (pR (ln:Nat) 116 aZ) aa fun v75 gM er=> ?_
 obtain ⟨rfl,bT⟩:=er
 have gj:=bT.size
 refine p aA<|e<|ca gY aa aa aa aa (Wk.B (ba.trans bT) aT) (by simp) fun gR d9 dN=>nl<|bE<|rt<|tr<|br<|tr<|tr<|br<|tr<|ew aa dX (dB (cs:= [.int .i64 2,aj ln,.int .i64 116]) aa jz aa fun j an=>dN.bm j) ?_
 rw [show n - i=0 by omega] at ah
 exact kf.no ah.more<|(aC.trans<|ba.trans bT).trans' d9 fun q C h=>by omega
 refine aO<|a1<|ak fun bE=>au (aW fb)<|p (cz Ac aa (aa) fun j an=>(Wk.B cu cG).bm j)<|p (cz ti aa (aa) fun j an=>bq.bm j)<|e<|cl Jc (KX B fb mc F V ln r cc.heap.size a c aZ (cA.wk<|aC.trans ba) ⟨seen,cq⟩ (cF.wk ba) cS.2 cS.1) aa fun fy fE es=> ?_
 obtain ⟨d6,bW⟩:=es
 obtain ⟨A,a2,ck,rfl,c3,cN⟩:∃ (u:Tx) (a:Value) (e:Nat),fy= .tuple #[.agg [str u,a].toArray,aj e]∧a.oneCell'=true∧((e=0∧∃ l,fw F r= .ok (u,l)∧bp fE aZ.heap.size 51 1 a l.length (l.map aR))∨(e≠0∧fw F r= .error e)):=by
  rcases d6 with ⟨x,a,h1,h2,h3⟩ | ⟨e,h1,h2,h3⟩
  exact ⟨x.1,a,0,h2,ej h3,.inl ⟨aa,x.2,h1,h3⟩⟩
  exact ⟨_,_,e,h3,aa,.inr ⟨h2,h1⟩⟩
 have gk:=bW.size
 refine p mv<|p (xt aa aa)<|p (xt aa aa)<|e<|gx lD fun bL gF fO bh cn=> ?_
 have f5:=bh.size
 refine e<|gi gP aa aa aa (EO c3) cn aw fun aq bc dO=> ?_
 have aQ:Wk ax aq:=(cu.trans<|bW.trans bh.md).trans' bc fun q C h=>by omega
 have cH:aq.heap[bL]? =some (.cells [str A,a2].toArray 72 (0,0)):=dO
 have f7:=bc.size
 have eJ:bw aq.heap ch [aj ln,.slice a r.length c]:=bc.B (Wk.B (bW.trans bh.md) bq) fun h=>by omega
 refine ay<|bE<|az fun ds=>ak fun du=>p mv<|p (fR aa aa)<|nl<|du<|cd aa (fun eR=> ?_) fun eR=> ?_
 obtain ⟨fY,hex⟩:=cN.resolve_left fun h=>by omega
 refine ak fun bF=>p (fa tV aa)<|p (ld bK aa<|(eJ.aI 0).trans aa)<|p mv<|e<|cl pN (pR (ln:Nat) (ck:Nat) aq) aa fun gA gO eu=> ?_
 obtain ⟨rfl,bX⟩:=eu
 have gl:=bX.size
 exact p aA<|e<|ca gY aa aa aa aa (Wk.B (O.trans<|aQ.trans bX) aT) (by simp) fun gS ea dP=>nl<|bF<|rt<|tr<|br<|tr<|tr<|br<|tr<|ew aa dX (dB (cs:= [.int .i64 2,aj ln,aj ck]) aa jz aa fun j an=>dP.bm j)<|kf.no (ah.bad ab hex)<|(aC.trans<|O.trans<|aQ.trans bX).trans' ea fun q C h=>by omega
 obtain ⟨_,aM,hex,e8⟩:=cN.resolve_right fun h=>by omega
 have bk:=aS.wk aQ
 have e2:¬(va.ownBlock=some E):=c8 bk.own bk.cells aw
 have e1:¬(va.ownBlock=some bL):=fun h=>by have :=(dd aS.own h).2; omega
 have gq:=aQ.size
 refine aO<|ds<|az fun bF=> ?_
 have aL:(fun w'=>Md (fun q=>va.ownBlock=some q) aq w') aq.drew:=(Md.refl _ _).drew
 refine eB (fun w'=>Md (fun q=>va.ownBlock=some q) aq w') 10 aa wide aL<|bl 0 aa (aW E) aL<|bl 1 aa (aW E) aL<|bz 2 aa (fun _=>nc aa) (fun _=>aL)<|bz 3 aa (fun _=>fa tU aa) (fun _=>aL)<|dU 4 aa (fun w' I=>ld q4 aa<|Md.aI I ((aY bk.cells).trans aa) e2) aL<|dU 5 aa (fun w' I=>cz jD aa (aa) fun j an=>bw.bm ⟨_,Md.aB I cH e1⟩ j) aL<|iY 6 aa ag<|mu uH aa aa aa fun fK fF fT ef dZ=> ?_
 have aJ:=ig ef.md
 have J:=bk.wk aJ
 have gm:=aJ.size
 have cD:(fun w'=>Md (fun q=>va.ownBlock=some q) aq w') fF:=Md.mono aJ fun _ _ h=>h.elim
 refine ⟨cD,?_⟩
 refine iY 7 aa ag<|ap uH (J.own) aa ab aa (aE.fA dZ) (aa) (EO c3) ab ab fun a9 ce c1 ac fs fV=> ?_
 obtain ⟨f,cP,eY⟩:=J.mp
 have a4:=ac.aB J.cells<|c8 J.own J.cells aw
 have c2:bp ce M.heap.size 72 2 a9 (xs++ [(A,aM)]).length (jY<|(xs++ [(A,aM)]).zip<|vs++ [a2]):=by
  have eZ:xs.length=vs.length:=by have :=J.fl.1; rw [eX] at this; omega
  rw [List.zip_append eZ,List.zip_cons_cons,List.zip_nil_right,Ls,bJ]; exact c1
 have fs:=ac.size
 have eF:=ac.B (Wk.B (aQ.trans aJ) cG) fun h=>by have :=(dd J.own h).1; omega
 have eK:=ac.aB (Wk.aB aJ cH) fun h=>by have :=(dd aS.own h).2; omega
 have d5:Wk av ce:=(O.trans<|aQ.trans aJ).trans' ac fun q C h=>by have :=(dd J.own h).1; omega
 have b2:(fun w'=>Md (fun q=>va.ownBlock=some q) aq w') ce:=cD.trans' ac fun _ _ h=>h
 refine ⟨b2,?_⟩
 refine bz 8 aa (fun _=>nc aa) (fun _=>b2)<|bz 9 aa (fun _=>fa tU aa) (fun _=>b2)<|c5 10 aa ag ag<|dF By aa aa (v:=a9) (ej c1) a4 (by show _ < 2; omega) fun aD ai dE=> ?_
 have bs:aD.heap[E]? =some (.cells [a9,.map (some Y)].toArray 186 (0,0)):=dE
 have fZ:=ai.size
 have d1:Wk av aD:=d5.trans' ai fun q C h=>by omega
 have eG:=ai.B eF fun h=>by omega
 have b4:=ai.aB eK fun h=>by omega
 have cZ:=cx c2 ai fun q C h=>c8 c2 a4 aw<|h ▸ C
 have ex:Tg aD M.heap.size 51 aM.length a2 (aM.map aR):=((((((Tg.j8 e8).mono ab).wk bh.md).md bc<|gz cn aw).wk aJ).md ac<|iQ J.own aw).md ai<|gz a4 aw
 have eV:=((J.fl.md ac<|iQ J.own aw).md ai<|gz a4 aw).snoc ex
 have b7:=(cP.md ac fun h=>oW J.own h fun cur z=>cP.nm).md ai fun h=>by omega
 have bt:=(eY.md ac<|iQ J.own aw).md ai<|gz a4 aw
 have b8:¬(((f<|str A).getD<|bB none 0 0).ownBlock=some E):=c8 (bt.own A) bs aw
 have cX:¬(((f<|str A).getD<|bB none 0 0).ownBlock=some bL):=c8 (bt.own A) b4 aw
 have cY:¬(((f<|str A).getD<|bB none 0 0).ownBlock=some Y):=fun h=>oW (bt.own A) h fun cur z=>b7.nm
 refine eA ag<|bF ?_
 have G:(fun w'=>Md (fun q=>((f<|str A).getD<|bB none 0 0).ownBlock=some q) aD w') aD.drew:=(Md.refl _ _).drew
 refine eB (fun w'=>Md (fun q=>((f<|str A).getD<|bB none 0 0).ownBlock=some q) aD w') 16 aa wide G<|lq 0 aa ag (fun _ _=>aH (aW E) aa) G<|lq 1 aa ag (fun _ _=>nc aa) G<|lq 2 aa ag (fun _ _=>fa Cq aa) G<|lq 3 aa ag (fun w' I=>ld Aa aa<|Md.aI I ((aY bs).trans aa) b8) G<|lq 4 aa ag (fun _ _=>fa rP aa) G<|lq 5 aa ag (fun w' I=>ld cO aa<|Md.aI I ((aY b4).trans aa) cX) G<|lq 6 aa ag (fun _ _=>aH (aW E) aa) G<|lq 7 aa ag (fun _ _=>nc aa) G<|lq 8 aa ag (fun _ _=>fa Cq aa) G<|lq 9 aa ag (fun w' I=>ld Aa aa<|Md.aI I ((aY bs).trans aa) b8) G<|lq 10 aa ag (fun _ _=>fa rP aa) G<|lq 11 aa ag (fun w' I=>ld cO aa<|Md.aI I ((aY b4).trans aa) cX) G<|lq 12 aa ag (fun w' I=>mF ES Sw gp (bU.md (b7) I cY) aa aa (⟨_,aa⟩)<|aa) G<|lq 13 aa ag (fun _ _=>aH (aj i) aa) G<|iY 14 aa ag<|lf o0 aa aa fun fJ fz fM ee dG=> ?_
 have Z:=ig ee.md
 have aU:=bt.md Z fun _ hk=>hk.elim
 have f0:=Z.size
 have cE:(fun w'=>Md (fun q=>((f<|str A).getD<|bB none 0 0).ownBlock=some q) aD w') fz:=Md.mono Z fun _ _ h=>h.elim
 refine ⟨cE,?_⟩
 refine iY 15 aa ag<|ap o0 (aU.own A) aa ab aa (aE.fA dG) (aa) (aa) (by have :=CT A xs; omega) (by have :=CT A xs; omega) fun fv de e6 am fr a5=> ?_
 have fr:=am.size
 have a5:=(b7.wk Z).md am cY
 have e9:bp de M.heap.size 3 1 fv (idxs A xs++ [xs.length]).length ((idxs A xs++ [xs.length]).map gN):=by
  rw [bJ,iJ,c9]; exact e6
 have ev:(fun w'=>Md (fun q=>((f<|str A).getD<|bB none 0 0).ownBlock=some q) aD w') de:=cE.trans' am fun _ _ h=>h
 refine ⟨ev,?_⟩
 refine c5 16 aa ag ag<|qs ES gp (a5) aa aa aa (⟨_,aa⟩) fun df aK eg=> ?_
 have fc:=k4.put (x:=(A,aM)) aU am e9 (fun cur z=>a5.nm) aK
 have eO:=aK.aB (am.aB (Wk.aB Z bs) b8) fun h=>by omega
 have c0:=cx (aX cZ Z) am fun q C=>mJ (aX cZ Z) (aU.own A) aw C
 have e7:=cx c0 aK fun q C h=>oW c0 C fun cur z=>h ▸ a5.nm
 have eW:=((eV.wk Z).md am<|iQ (aU.own A) aw).md aK fun k hk cur z h=>a5.nm<|hk ▸ h
 have eC:jT df M.heap.size E Y a9 (vs++ [a2]) (xs++ [(A,aM)]):=⟨eO,e7,by rw [iJ]; exact eW,⟨_,eg,fc⟩⟩
 have d3:Wk av df:=((d1.trans Z).trans' am fun q C h=>by have :=(dd (aU.own A) h).1; omega).trans' aK fun q C h=>by omega
 have eH:=aK.B (am.B (Wk.B Z eG) fun h=>by have :=(dd (aU.own A) h).1; omega) fun h=>by omega
 have f8:=aK.size
 exact eA ag<|bn<|bC<|rg aa<|p (ad aa aa<|cg ab)<|p mv<|nl<|tn<|⟨_,ab,i+1,xs++ [(A,aM)],vs++ [a2],a9,ab,(by rw [bJ,c9]; rfl),(by rw [show n - (i+1)=n - i - 1 by omega]; exact ah.step ab hex),eC,d3,eH,(ab),aa,aa,aa,(by first | rfl | (rw [← cW]; rfl)),aa,aa,(by first | rfl | (rw [U]; rfl)),(by first | rfl | (rw [U]; rfl)),aa,aa⟩
 refine ext<|bj<|bj<|be<|dk<|az fun bC=>az fun bD=> ?_
 obtain ⟨fI,cv,rfl⟩:=cU aS.own
 refine rg aa<|au (aW E)<|p (nc aa)<|p (fa tU aa)<|p (ld q4 aa<|(aY aS.cells).trans aa)<|p (bO uR aa aa)<|au (aj n)<|p (lt aa aa)<|nl<|bD<|cd aa (fun eN=> ?_) fun eN=> ?_
 refine ak fun a1=>au (.slice da (cV t).length ci)<|p (bO gU aa aa)<|p (bI (((cV t).length+1:Nat):Int) aa aa<|bf ab ab)<|e<|cl pN (pR ((cV t).length+1:Nat) 116 ax) aa fun gt gC eh=> ?_
 obtain ⟨rfl,bN⟩:=eh
 have f2:=bN.size
 refine p aA<|e<|ca gY aa aa aa aa (Wk.B (O.trans bN) aT) (by simp) fun gT eb dR=>nl<|a1<|rt<|tr<|ew aa dX (dB (cs:= [.int .i64 2,aj ((cV t).length+1),.int .i64 116]) aa jz aa fun j an=>dR.bm j) ?_
 rw [k0 ab] at ah
 exact kf.no (ah.ends ab)<|(aC.trans<|O.trans bN).trans' eb fun q C h=>by omega
 refine aO<|bC<|ak fun a1=>au (aW E)<|p (cT (ps:= []) (L:= [.int .i64 0,.int .i64 0,.int .i64 0]) qj aa<|aa)<|p (bZ (aW E) aa)<|e<|ca gY aa aa aa aa (Wk.B O aT) (by simp) fun gW cB dS=>nl<|a1<|rt<|ew aa dX (dB (cs:= [.int .i64 0,.int .i64 0,.int .i64 0]) aa jz aa fun j an=>dS.bm j) ?_
 rw [k0 ab,show n - i=0 by omega] at ah
 have eD:=ah.done
 have ey:TF ax [49] (fun q=>q=bM):=TF.eq (dt<|Wk.aB (hE22.trans<|hE31.trans O) cp) aw
 unfold kf
 rw [eD]
 exact ⟨⟨M.heap.size,E,Y,_,vs,ab,aa,aS.md cB ey aw (fun h=>by omega),ab,ab⟩,(aC.trans O).trans' cB fun q C h=>by omega⟩
end Go.Hb.jU
end
section
namespace Go.Hb
open Go.Hb.iT Go.Hb.jU
theorem Sf {α:Type} {f:α×Value→List Value} {m c i:Nat} (A:∀ q,(f q).length=m) (C:c < m) (hs:∀ a u v,(f (a,u)).set c v=f (a,v)) {rs:List α} {vs:List Value} {v:Value} (hi:i < rs.length) (J:i < vs.length):((rs.zip vs).flatMap f).set (i*m+c) v=(rs.zip<|vs.set i v).flatMap f:=by
 obtain ⟨r,I⟩:∃ r,rs[i]? =some r:=⟨_,cj hi⟩
 obtain ⟨u,hu⟩:∃ u,vs[i]? =some u:=⟨_,cj J⟩
 have M:(rs.zip vs)[i]? =some (r,u):=iR.2 ⟨I,hu⟩
 have V:rs.zip (vs.set i v)=(rs.zip vs).set i (r,v):=by
  apply nB
  intro j
  rw [jR]
  by_cases E:i=j
  · subst E
    rw [if_pos rfl,if_pos (eH.1 M).1]
    exact iR.2 ⟨I,by simp [J]⟩
  · rw [if_neg E]
    cases h1:(rs.zip vs)[j]? with
    | none=>
      rw [Gp,vD] at h1 ⊢
      rw [sS]; exact h1
    | some q=>
      have h2:=iR.1 h1
      exact iR.2 ⟨h2.1,by rw [jR,if_neg E]; exact h2.2⟩
 have Y:(rs.zip vs).length=min rs.length vs.length:=vD
 have G:((rs.zip vs).flatMap f).length=(rs.zip vs).length*m:=nR A _
 have hle:i*m+m≤(rs.zip vs).length*m:=by rw [← Nat.succ_mul]; exact Nat.mul_le_mul_right _ ab
 rw [V,Ci A _ ab]
 apply nB
 intro j
 have O:=fun c C=>xA A (c:=c) M C
 have U:(((rs.zip vs).flatMap f).take<|i*m).length=i*m:=by rw [ec,G]; omega
 rw [jR]
 by_cases h1:j < i*m
 · rw [if_neg ab,dK,lG ab,mg,if_pos h1]
 · rw [dK,me ab,U]
   by_cases h2:j < i*m+m
   · rw [lG (by rw [A]; omega)]
     obtain ⟨d,rfl⟩:∃ d,j=i*m+d:=⟨j - i*m,ab⟩
     rw [O d ab,show i*m+d - i*m=d by omega,← hs r u v,jR]
     by_cases h3:c=d
     · subst h3; rw [if_pos rfl,if_pos rfl,if_pos (by rw [G]; omega),if_pos (by rw [A]; exact C)]
     · rw [if_neg ab,if_neg h3]
   · rw [if_neg ab,me (by rw [A]; omega),A,sQ]
     congr 1; omega
theorem LC {xs:List bo} {vs:List Value} {i:Nat} {v:Value} (hi:i < xs.length) (a:i < vs.length):(jY<|xs.zip vs).set (i*2 +1) v=jY (xs.zip<|vs.set i v):=Sf (f:=oI) (m:=2) (c:=1) (fun _=>rfl) aw (fun _ _ _=>rfl) hi a
theorem xj {l:List (bo×Value)} {i:Nat} {q:bo×Value} (h:l[i]? =some q):jY l≠[]:=fun h2=>by
 have h3:=Lt l
 have h4:=(eH.1 h).1
 rw [h2] at h3
 have h5:0=l.length*2:=h3
 omega
theorem LB {w:World} {B e:Nat} {xs:List bo} {vs:List Value} {i:List (List Nat)} (h:dm w B e vs i):(jY<|xs.zip vs).all eW=true :=by
 rw [kD]
 intro v a
 obtain ⟨q,c,a⟩:=qP.1 a
 have h1:=kD.1 (vO h) q.2 (Gz c).2
 simp only [oI,eY,sW,or_false] at a
 rcases a with rfl | rfl
 · rfl
 · exact h1
def mZ (w:World) (B:Nat) (vs:List Value) (a:List (List Nat)):Prop :=vs.length=a.length∧∀ (i:Nat) v l,vs[i]? =some v→a[i]? =some l→bp w B 51 1 v l.length (l.map aR)
theorem mZ.t {w:World} {B:Nat} {vs:List Value} {a:List (List Nat)} (h:mZ w B vs a):dm w B 51 vs a:=⟨h.1,fun i v l h1 h2=>Tg.j8<|h.2 i v l h1 h2⟩
theorem Ah {G:Nat→Prop} {w w':World} {B:Nat} {vs:List Value} {a:List (List Nat)} (h:mZ w B vs a) (hm:Md G w w') (c:∀ k,G k→∀ cur z,w.heap[k]?≠some (.cells cur 51 z)):mZ w' B vs a:=⟨h.1,fun i v l h1 h2=>cx (h.2 i v l h1 h2) hm fun k hk q=>oW (h.2 i v l h1 h2) hk<|c k q⟩
theorem Hk (w:World) (B:Nat):mZ w B [] []:=⟨rfl,fun i v l a=>by simp at a⟩
theorem Hj {w:World} {B i:Nat} {vs:List Value} {a:List (List Nat)} {v:Value} (h:mZ w B (vs.take i) (a.take i)) (hi:i < a.length) (C:i < vs.length) (A:bp w B 51 1 v (a.getD i []).length ((a.getD i []).map aR)):mZ w B ((vs.set i v).take<|i+1) (a.take<|i+1):=by
 refine ⟨by simp; have :=h.1; simp at this; omega,fun j u l h1 h2=> ?_⟩
 rw [mg] at h1 h2
 by_cases c:j < i+1
 · rw [if_pos c] at h1 h2
   rw [jR] at h1
   by_cases q:i=j
   · subst q
     rw [if_pos rfl,if_pos C] at h1
     cases h1
     rw [show a.getD i []=l by rw [cX,h2]; rfl] at A
     exact A
   · rw [if_neg q] at h1
     exact h.2 j u l (by rw [mg,if_pos ab]; exact h1)<|by rw [mg,if_pos ab]; exact h2
 · rw [if_neg c] at h1; cases h1
theorem KW (B wb mb:Nat) (va:Value) (vs:List Value) (xs:List bo) (w:World) (G:jT w B wb mb va vs xs) (a2:xs.length≤70000) (aK:∀ x∈xs,x.2.length≤64):
 bd ao 47 (a7 [aW wb]) w (fun v w'=>(∃ vs,bp w' w.heap.size 72 2 v xs.length (jY<|xs.zip vs)∧dm w' w.heap.size 51 vs (xs.map (·.2))∧mZ w' w.heap.size vs (xs.map (·.2)))∧Wk w w'):=by
 refine enter func47 aa ntmps47 aa<|ak fun am=>ay<|am<|az fun ap=>ak fun aq=>au (aW wb)<|p (lU EW aa aa)<|nl<|aq<|cf (aa)<|aO<|ap<|az fun ar=>rg aa<|au (aW wb)<|p (nc aa)<|p (fa tU aa)<|p (ld q4 aa<|(aY G.cells).trans aa)<|e<|cl Jd (JC va xs.length (jY<|xs.zip vs) w (Rd.j8 G.own) (LB G.fl) ab) aa fun v11 a5 aG=> ?_
 obtain ⟨ah,aD⟩:=aG
 obtain ⟨A,C,rfl⟩:=cU ah
 have aT:vs.length=xs.length:=by have :=G.fl.1; rwa [eX] at this
 refine ay<|ar<|az fun av=>ak fun ax=>p mv<|p (bO uR aa aa)<|p mv<|nl<|ax<|aB<|lp (fun ag M E=> ∃ (i:Nat) (sa:List Value),(i≤xs.length)∧(sa.length=xs.length)∧(sa.drop i=vs.drop i)∧(mZ E w.heap.size (sa.take i)<|(xs.map (·.2)).take i)∧(bp E w.heap.size 72 2 (.slice A xs.length C) xs.length<|jY<|xs.zip sa)∧(Wk w E)∧(M 3= .slice A xs.length C)∧(M 13=aj (xs.length))∧(M 14=aj i)∧(xs.length - i=ag)) _ ⟨0,vs,ab,aT,aa,(Hk _ _),ah,aD,aa,aa,aa,aa⟩ ?_
 rintro ag M E ⟨i,sa,hi,aS,al,J,c,I,aQ,aN,aP,rfl⟩
 refine fx 3 aQ<|fx 13 aN<|fx 14 aP<|ak fun aA=>p (lt aa aa)<|nl<|aA<|az fun aC=>cd aa (fun aJ=> ?_) fun aJ=> ?_
 refine aO<|aC<|az fun O=>aB<|az fun an=> ?_
 obtain ⟨a4,aU,V⟩:=dm.get (G.wk I).fl (show i < (xs.map (·.2)).length by rw [eX]; omega)
 obtain ⟨ae,ci,rfl⟩:=V.slice
 obtain ⟨x,ac⟩:∃ x,xs[i]? =some x:=⟨_,cj ab⟩
 have a0:(xs.map (·.2)).getD i []=x.2:=by rw [cX,gu,ac]; rfl
 have aZ:=aK x<|gV ac
 rw [← a0] at aZ
 have Z:(xs.zip sa)[i]? =some (x,.slice ae ((xs.map (·.2)).getD i []).length ci):=iR.2 ⟨ac,(xg al).trans aU⟩
 refine rg aa<|au (aj i)<|p (bZ (aj i) aa)<|nl<|an<|rg aa<|au (.slice A xs.length C)<|au (aj i)<|au (.slice A xs.length C)<|au (aj i)<|p (a6 xn aa aa ab<|aE.ok ((aV c).2)<|xj Z)<|p (fa oM aa)<|p (ld k8 aa<|gn (f:=oI) (m:=2) (fun _=>rfl) (aV c).2 Z 1 aw)<|e<|cl oF (pO ae ((xs.map (·.2)).getD i []).length ci (((xs.map (·.2)).getD i []).map aR) E V.dq.2 (by simp) (fun h=>Tg.qe V (by simp) h) (pJ _) ab) aa fun v24 a8 aH=> ?_
 obtain ⟨Y,a⟩:=aH
 have a3:=a.size
 refine p (a6 xn aa aa ab<|aE.ok ((aV<|aX c a).2)<|xj Z)<|p (fa oM aa)<|e<|qk (j:=i*2 +1) (aX c a) pQ aa aa (ej Y) (by rw [jv]; omega) ab fun a1 U ai=> ?_
 rw [LC ab ab] at ai
 have aF:Wk w a1:=Wk.own (I.trans a) (aX c a) U ab
 have aL:=cx (eS Y (show w.heap.size≤E.heap.size from I.size)) U fun q aM=>mJ Y (aX c a) aw aM
 have aI:=Ah (Ah J a fun _ hk=>hk.elim) U<|iQ (aX c a) aw
 exact nl<|bn<|O<|rg aa<|p (ad aa aa<|cg ab)<|p mv<|nl<|tn<|⟨_,ab,i+1,sa.set i v24,ab,(by rw [sS]; exact aS),(iT.set_drop al),(Hj aI (by rw [eX]; omega) ab aL),ai,aF,aa,aa,aa,aa⟩
 refine ext<|bj<|bj<|be<|av<|ak fun O=>au (.slice A xs.length C)<|p (bZ (.slice A xs.length C) aa)<|nl<|O<|rt<|ba aa ?_
 rw [fq ab,fq (by rw [eX]; omega)] at J
 exact ⟨⟨sa,c,J.t,J⟩,I⟩
end Go.Hb
end
section
namespace Go.Hb
structure GW where
 rb:Nat
 fb:Nat
 eof:Nat
 vr:Value
 vs:List (Nat×Value)
 rows:List Rw
section
variable {w w':World} {B k ln:Nat} {H:GW} {seen:List Tx} {vh:Value}
end
end Go.Hb
end
section
namespace Go.Hb.ke
open Go.Hb.je
def Ny (F:aG):Prop := ∀ l∈F.aliases,∀ x∈l,x < 65536
theorem Cz {kind:Nat} {s:Tx} {l:List Nat} (h:jZ kind s= .ok l):∀ x∈l,x < 65536:=by
 unfold jZ at h
 split at h
 · cases h
 · cases h
   intro x a
   unfold ez at a
   repeat' split at a
   all_goals first
    | (cases a; done)
    | (rw [yt] at a
       obtain ⟨y,_,rfl⟩:=List.mem_map.1 a
       exact Mj _ _)
theorem He {kind ln:Nat} {row:List Tx} {l:List Nat} (h:k9 kind ln row= .ok l):∀ x∈l,x < 65536:=by
 unfold k9 at h
 split at h
 · cases h
 · exact Cz h
theorem Mq {kind:Nat} {al:List (List Nat)} {s:Tx} {l:List Nat} (a:∀ l∈al,∀ x∈l,x < 65536) (h:fy kind al s= .ok l):∀ x∈l,x < 65536:=by
 unfold fy at h
 split at h
 · exact Cz h
 · split at h
   · cases h
   · split at h
     · cases h
     · cases h
       rename_i n _ _
       rw [cX]
       cases hg:al[n - 1]? with
       | none=>simp
       | some y=>exact a y<|gV hg
theorem Nf {eof ln:Nat} {F F':aG} {hs:List Tx} {rows rows':List Rw} {row:List Tx} (h:Ny F) (a:bS eof F hs rows ln row= .ok (F',rows')):Ny F':=by
 unfold bS at a
 repeat' split at a
 · unfold js at a; repeat' split at a
   all_goals first | (cases a; done) | (cases a; exact h)
 · unfold j5 at a; repeat' split at a
   all_goals first | (cases a; done) | (cases a; exact h)
 · unfold l0 at a; repeat' split at a
   all_goals first | (cases a; done) | (cases a; exact h)
 · unfold l1 at a; repeat' split at a
   all_goals first | (cases a; done) | (cases a; exact h)
 · unfold j6 at a; repeat' split at a
   all_goals first | (cases a; done) | (cases a; exact h)
 · unfold j9 at a; repeat' split at a
   all_goals first | (cases a; done) | (cases a; exact h)
 · unfold jG at a
   split at a
   · cases a
   · split at a
     · cases a
     · split at a
       · cases a
       · rename_i r i
         cases a
         intro l c
         rcases List.mem_append.1 c with c | c
         · exact h l c
         · obtain ⟨_,_,h2⟩:=xT _ _ _ i l c
           exact He h2
 · unfold gA at a; repeat' split at a
   all_goals first | (cases a; done) | (cases a; exact h)
theorem PT {eof:Nat} :∀ (k:Nat) (F F':aG) (hs:List Tx) (rows:List Rw),Ny F→ga eof k F hs rows= .ok F'→Ny F':=by
 intro k
 induction k with
 | zero=>intro F F' hs rows h a; rw [ga] at a; split at a <;> cases a; exact h
 | succ k i=>
   intro F F' hs rows h a
   cases rows with
   | nil=>rw [D7] at a; cases a; exact h
   | cons q rows=>
     rw [ga] at a
     split at a
     · cases a
     · split at a
       · cases a
       · split at a
         · cases a
         · split at a
           · cases a
           · rename_i r c
             exact i _ _ _ _ (Nf (rows':=r.2) h c) a
theorem z6 {s:Tx} {F:aG} (h:fu s= .ok F):Ny F:=by
 unfold fu at h
 split at h
 · cases h
 · split at h
   · cases h
   · rename_i f a
     split at h
     · cases h
     · cases h
       exact PT _ _ _ _ _ (fun l c=>by cases c) a
def s7 (x:bo):Prop :=x.1.length≤64∧x.2.length≤64∧(∀ y∈x.2,y < 65536)
theorem xi {F:aG} {row:List Tx} {x:bo} (h1:Nx F) (h2:Ny F) (h:fw F row= .ok x):s7 x:=by
 unfold fw at h
 split at h
 · cases h
 · split at h
   · cases h
   · split at h
     · cases h
     · split at h
       · cases h
       · split at h
         · cases h; exact ⟨by simp only; omega,by simp,fun y c=>by cases c⟩
         · split at h
           · cases h
           · rename_i a
             split at h
             · cases h
               exact ⟨by simp only; omega,xy h1.1 a,Mq h2 a⟩
             · cases h
theorem LG {F:aG} {eof:Nat} (h1:Nx F) (h2:Ny F):∀ {n:Nat} {rows:List Rw} {r:List bo},ek F eof n rows= .ok r→∀ x∈r,s7 x:=by
 intro n
 induction n with
 | zero=>
   intro rows r h
   cases rows with
   | nil=>rw [ek] at h; cases h; intro x a; cases a
   | cons q rows=>rw [ek] at h; cases h
 | succ n i=>
   intro rows r h
   cases rows with
   | nil=>rw [ek] at h; cases h
   | cons q rows=>
     rw [ek] at h
     split at h
     · cases h
     · rename_i he
       split at h
       · cases h
       · rename_i c
         cases h
         intro x a
         rcases eY.1 a with rfl | a
         · exact xi h1 h2 he
         · exact i c x a
theorem BG {F:aG} {t:Tx} {xs:List bo} (h1:Nx F) (h2:Ny F) (h:e5 F t= .ok xs):(∀ x∈xs,s7 x)∧xs.length≤8192:=by
 unfold e5 at h
 split at h
 · cases h
 · split at h
   · cases h
   · split at h
     · cases h
     · split at h
       · cases h
       · rename_i hn
         refine ⟨LG h1 h2 h,?_⟩
         have c:=(LI h).1
         unfold dZ at hn
         split at hn
         · cases hn
         · cases hn
           rename_i a
           have :=uh _ 8192<|lE.1 a
           omega
end Go.Hb.ke
end
section
namespace Go.Hb
open Go.Hb.je Go.Hb.iT Go.Hb.jU Go.Hb.ke
noncomputable def lA (a t:Tx):Option (aG×List bo):=match fu a with
 | .error _=>none
 | .ok F=>match e5 F t with
   | .error _=>none
   | .ok xs=>some (F,xs)
theorem Rg {a t:Tx} {e:Nat×Nat} (h:fu a= .error e):lA a t=none:=by unfold lA; rw [h]
theorem Rh {a t:Tx} {F:aG} {e:Nat×Nat} (h:fu a= .ok F) (h1:e5 F t= .error e):lA a t=none:=by unfold lA; rw [h]; simp only; rw [h1]
theorem EB {a t:Tx} {F:aG} {xs:List bo} (h:fu a= .ok F) (h1:e5 F t= .ok xs):lA a t=some (F,xs):=by unfold lA; rw [h]; simp only; rw [h1]
structure ff (F:aG) (xs:List bo):Prop where
 len:F.c6.length+F.aliases.length+F.bu.length+F.rules.length≤70000
 nx:Nx F
 rC:∀ x∈xs,s7 x
 xl:xs.length≤8192
 fs:pD F
 cls:m5 F
 Lp:∀ x∈xs,jy x.2
 jb:F.sp.length=5
 ne:∀ x∈xs,1≤x.1.length
theorem vJ {s:Tx} {F:aG} (h:fu s= .ok F):Nx F:=z1 (Q:=Nx) ⟨fun l a=>(by cases a),fun l a=>by cases a⟩ (fun _ _ _ _ _ _ _ _ h c=>xX h c) h
theorem ff.of {a t:Tx} {F:aG} {xs:List bo} (h:fu a= .ok F) (h1:e5 F t= .ok xs) (c:∃ seen,jg F [] seen) (h5:F.sp.length=5):ff F xs:=by
 obtain ⟨seen,c⟩:=c
 have q:=c.len
 have i:=BG (vJ h) (z6 h) h1
 exact ⟨by simpa using q,vJ h,i.1,i.2,(vI h).1,(vI h).2,Le (vI h).1 h1,h5,Li h1⟩
theorem ff.ku {F:aG} {xs:List bo} (h:ff F xs) {i:Nat} {r:cG} (a:F.rules[i]? =some r):r.next.length≤64∧jy r.next∧ta r:=⟨h.nx.2 r (gV a),h.fs.2 r<|gV a⟩
structure fX where
 fb:Nat
 mc:Nat
 wb:Nat
 mb:Nat
 V:dQ
 V2:dQ
 va:Value
 ve:Value
 vs:List Value
 ws:List Value
def Rl (F:aG) (a:fX):List Value:= .pointer (some ⟨a.fb,0,none⟩):: .pointer (some ⟨a.wb,0,none⟩)::(jW F a.V2++ [a.ve])
structure eQ (w:World) (B tb:Nat) (U:fX) (F:aG) (xs:List bo):Prop where
 cells:w.heap[tb]? =some (.cells (Rl F U).toArray 64 (0,0))
 fl:cK w B U.fb U.mc F U.V
 ax:m3 w B F U.V2
 wd:jT w B U.wb U.mb U.va U.vs xs
 oe:bp w B 72 2 U.ve xs.length (jY<|xs.zip U.ws)
 ef:dm w B 51 U.ws (xs.map (·.2))
theorem vR {G:Nat→Prop} {w w':World} {B:Nat} {F:aG} {V:dQ} (h:m3 w B F V) (hm:Md G w w') {L:List Nat} (a:TF w L G) (c:(L.contains 130 || L.contains 72 || L.contains 53 || L.contains 133 || L.contains 79)=false):m3 w' B F V:=by
 simp only [n8] at c
 obtain ⟨⟨⟨⟨h1,h2⟩,h3⟩,h4⟩,h5⟩:=c
 have i:∀ k,G k→∀ cur z,w.heap[k]?≠some (.cells cur 51 z):=fun k hk cur z q=>a.no (dt q) h3 hk
 exact ⟨cW h.o9 hm a h1,cW h.fZ hm a h2,h.al.md hm i,cW h.fz hm a h4,cW h.ea hm a h5,h.nx.md hm i⟩
theorem eQ.rV {G:Nat→Prop} {w w':World} {B tb:Nat} {c:fX} {F:aG} {xs:List bo} (h:eQ w B tb c F xs) (hm:Md G w w') {L:List Nat} (a:TF w L G) (i:(L.contains 127 || L.contains 130 || L.contains 72 || L.contains 53 || L.contains 133 || L.contains 79 || L.contains 188 || L.contains 74 || L.contains 5 || L.contains 66)=false) (E:¬G c.mc) (C:¬G c.mb):eQ w' B tb c F xs:=by
 simp only [n8] at i
 obtain ⟨⟨⟨⟨⟨⟨⟨⟨⟨h1,h2⟩,h3⟩,h4⟩,h5⟩,h6⟩,h7⟩,h8⟩,h9⟩,h10⟩:=i
 have q:∀ k,G k→∀ cur z,w.heap[k]?≠some (.cells cur 51 z):=fun k hk cur z A=>a.no (dt A) h4 hk
 exact ⟨hm.im a h.cells h10,h.fl.md hm a (by rw [h1,h2,h3,h4,h5,h6]; rfl) E,vR h.ax hm a (by rw [h2,h3,h4,h5,h6]; rfl),h.wd.md hm a (by rw [h7,h8,h4,h9]; rfl) C,cW h.oe hm a h8,h.ef.md hm q⟩
theorem eQ.wk {w w':World} {B tb:Nat} {a:fX} {F:aG} {xs:List bo} (h:eQ w B tb a F xs) (hm:Wk w w'):eQ w' B tb a F xs:=h.rV (L:= []) hm (fun _ hk=>hk.elim) rfl id id
theorem HC {w w':World} {B:Nat} {F:aG} {V:dQ} (h:m3 w B F V) (hm:Wk w w'):m3 w' B F V:=vR (L:= []) h hm (fun _ hk=>hk.elim) rfl
theorem HA {w:World} {B B':Nat} {F:aG} {V:dQ} (h:m3 w B F V) (a:B'≤B):m3 w B' F V:=⟨eS h.o9 a,eS h.fZ a,h.al.mono a,eS h.fz a,eS h.ea a,h.nx.mono a⟩
theorem PN {s:Tx} {w w':World} {v:Value} (h:m6 s w v w'):∃ p i q A,v= .tuple #[.pointer p,.agg [.int .i64 i,.int .i64 q,.int .i64 A].toArray]∧((p=none∧∃ e,fu s= .error e)∨(∃ F fb mc V,p=some ⟨fb,0,none⟩∧fu s= .ok F∧cK w' w.heap.size fb mc F V∧(∃ seen,jg F [] seen)∧Nx F))∧Wk w w':=by
 obtain ⟨h,a⟩:=h
 cases hx:fu s with
 | error e=>rw [hx] at h; exact ⟨_,_,_,_,h,.inl ⟨rfl,e,rfl⟩,a⟩
 | ok F=>rw [hx] at h; obtain ⟨fb,mc,V,c,h1,h2,h3⟩:=h; exact ⟨_,_,_,_,c,.inr ⟨F,fb,mc,V,rfl,rfl,h1,h2,h3⟩,a⟩
theorem Ll {F:aG} {s:Tx} {w w':World} {v:Value} (h:kf F s w v w'):∃ p i q A,v= .tuple #[.pointer p,.agg [.int .i64 i,.int .i64 q,.int .i64 A].toArray]∧((p=none∧∃ e,e5 F s= .error e)∨(∃ xs B wb mb va vs,p=some ⟨wb,0,none⟩∧e5 F s= .ok xs∧w.heap.size≤B∧jT w' B wb mb va vs xs∧w.heap.size≤wb∧w.heap.size≤mb))∧Wk w w':=by
 obtain ⟨h,a⟩:=h
 cases hx:e5 F s with
 | error e=>rw [hx] at h; exact ⟨_,_,_,_,h,.inl ⟨rfl,e,rfl⟩,a⟩
 | ok xs=>rw [hx] at h; obtain ⟨B,wb,mb,va,vs,h1,c,h2,h3,h4⟩:=h; exact ⟨_,_,_,_,c,.inr ⟨xs,B,wb,mb,va,vs,rfl,rfl,h1,h2,h3,h4⟩,a⟩
def qX (a t:Tx) (w:World) (v:Value) (w':World):Prop :=(∃ p i q A,v= .tuple #[.pointer p,.agg [.int .i64 i,.int .i64 q,.int .i64 A].toArray]∧match lA a t with
 | none=>p=none
 | some T=> ∃ B tb c,w.heap.size≤B∧p=some ⟨tb,0,none⟩∧eQ w' B tb c T.1 T.2∧ff T.1 T.2)∧Wk w w'
theorem qX.no {a t:Tx} {w w':World} {c i q:Int} (h:lA a t=none) (hm:Wk w w'):qX a t w (.tuple #[.pointer none,.agg [.int .i64 c,.int .i64 i,.int .i64 q].toArray]) w':=⟨⟨none,c,i,q,rfl,by rw [h]⟩,hm⟩
theorem RV {w:World} {B B':Nat} {f:Value→Option Value} {xs:List bo} (h:k4 w B f xs) (a:B'≤B):k4 w B' f xs:=⟨fun s=>eS (h.own s) a,h.nil⟩
theorem Lm {w:World} {B B' wb mb:Nat} {va:Value} {vs:List Value} {xs:List bo} (h:jT w B wb mb va vs xs) (a:B'≤B):jT w B' wb mb va vs xs:=by
 obtain ⟨f,c,i⟩:=h.mp
 exact ⟨h.cells,eS h.own a,h.fl.mono a,f,c,RV i a⟩
theorem yY (a t:Tx) (w:World) (bQ:a.length≤1048576) (b2:t.length≤1048576):
 bd ao 19 (a7 [str a,str t]) w (qX a t w):=by
 refine enter func19 aa ntmps19 aa<|ak fun bn=>p aA<|e<|gx mR fun i ad ca al ae=> ?_
 have co:=al.size
 refine nl<|bn<|ak fun bp=>au (str a)<|e<|cl IW (G5 a ad bQ) aa fun v12 bk bI=> ?_
 have bV:=PN bI
 obtain ⟨pp,bb,bc,bf,rfl,ba,aG⟩:=bV
 have cg:=aG.size
 refine p mv<|p (xt aa aa)<|p (xt aa aa)<|e<|gx mR fun aQ cv cc a2 bB=> ?_
 have cp:=a2.size
 refine p aA<|e<|gi gY aa aa aa aa bB aw fun M aV aD=> ?_
 have aF:Wk bk M:=a2.md.trans' aV fun q C h=>by omega
 have aT:=aG.trans aF
 have cf:=aV.size
 have b0:bw M.heap aQ [.int .i64 bb,.int .i64 bc,.int .i64 bf]:=⟨_,aD⟩
 refine nl<|bp<|az fun bq=>ak fun br=>p mv<|p (lU sw aa aa)<|nl<|br<|cb aa (fun ap=> ?_) fun ap=> ?_
 obtain ⟨rfl,e,A⟩:pp=none∧∃ e,fu a= .error e:=by rcases ba with h | ⟨_,_,_,_,rfl,_⟩ <;> first | exact h | cases ap
 refine az fun av=> ?_
 have am:(fun w'=>Md (fun q=>q=i) M w') M.drew:=(Md.refl _ _).drew
 refine bM (fun w'=>Md (fun q=>q=i) M w') aa wide am<|aJ 0 aa (fun w' G=>cz jz aa (aa) fun j J=>(Md.B G b0 fun h=>by omega).bm j) am<|aJ 1 aa (fun _ _=>aA) am<|he 2 aa ag<|gi gY aa aa aa aa (Wk.aB aT ae) aw fun b4 bG bv=> ?_
 have a3:(fun w'=>Md (fun q=>q=i) M w') b4:=am.trans' bG fun q C h=>h
 refine ⟨a3,?_⟩
 exact hn ag<|av<|rt<|tr<|ew aa dX (dB (cs:= [.int .i64 bb,.int .i64 bc,.int .i64 bf]) aa jz aa fun j J=>(aY bv).trans<|by match j,J with | 0,_=>rfl | 1,_=>rfl | 2,_=>rfl)<|qX.no (Rg A)<|(al.md.trans aT).trans' a3 fun q C h=>by omega
 obtain ⟨F,fb,mc,V,rfl,A,ai,aS,a1⟩:=ba.resolve_left fun h=>by rw [h.1] at ap; cases ap
 refine aO<|bq<|ak fun av=>p mv<|au (str t)<|e<|cl IX (Lk ad.heap.size fb mc F V t M (ai.wk aF) aS a1 b2) aa fun v21 cu bJ=> ?_
 have bW:=Ll bJ
 obtain ⟨b3,bg,bh,bi,rfl,a9,ah⟩:=bW
 have ch:=ah.size
 refine p mv<|p (xt aa aa)<|p (xt aa aa)<|p aA<|e<|gi gY aa aa aa aa (Wk.aB ah aD) (by simp) fun E aL bx=> ?_
 have aU:Wk bk E:=(aF.trans ah).trans' aL fun q C h=>by omega
 have Y:=aG.trans aU
 have ck:=aL.size
 have b1:bw E.heap aQ [.int .i64 bg,.int .i64 bh,.int .i64 bi]:=⟨_,bx⟩
 refine nl<|av<|az fun bs=>ak fun bt=>p mv<|p (lU EW aa aa)<|nl<|bt<|cb aa (fun aq=> ?_) fun aq=> ?_
 obtain ⟨rfl,e,hd⟩:b3=none∧∃ e,e5 F t= .error e:=by rcases a9 with h | ⟨_,_,_,_,_,_,rfl,_⟩ <;> first | exact h | cases aq
 refine az fun ax=> ?_
 have an:(fun w'=>Md (fun q=>q=i) E w') E.drew:=(Md.refl _ _).drew
 refine bM (fun w'=>Md (fun q=>q=i) E w') aa wide an<|aJ 0 aa (fun w' G=>cz jz aa (aa) fun j J=>(Md.B G b1 fun h=>by omega).bm j) an<|aJ 1 aa (fun _ _=>aA) an<|he 2 aa ag<|gi gY aa aa aa aa (Wk.aB Y ae) aw fun b5 bH bA=> ?_
 have a4:(fun w'=>Md (fun q=>q=i) E w') b5:=an.trans' bH fun q C h=>h
 refine ⟨a4,?_⟩
 exact hn ag<|ax<|rt<|tr<|ew aa dX (dB (cs:= [.int .i64 bg,.int .i64 bh,.int .i64 bi]) aa jz aa fun j J=>(aY bA).trans<|by match j,J with | 0,_=>rfl | 1,_=>rfl | 2,_=>rfl)<|qX.no (Rh A hd)<|(al.md.trans Y).trans' a4 fun q C h=>by omega
 obtain ⟨xs,B,wb,mb,va,vs,rfl,hd,b8,bP,ce,cd⟩:=a9.resolve_left fun h=>by rw [h.1] at aq; cases aq
 have aN:=bP.md (L:= [49]) aL (TF.eq (dt<|Wk.aB ah aD) aw) aw fun h=>by omega
 have aK:=ai.wk aU
 have bS:=BG (vJ A) (z6 A) hd
 obtain ⟨seen,aR⟩:=aS
 have bT:=aR.len
 refine aO<|bs<|ak fun ax=>p mv<|p mv<|p (cT (ps:= [(0,aW fb),(1,aW wb)]) (L:= [aW fb,aW wb,.int .i64 0,.string ⟨⟨[]⟩⟩,.string ⟨⟨[]⟩⟩,.int .u16 0,.int .u16 0,.int .u16 0,.int .u16 0,.int .u16 0,.int .i64 0,.slice none 0 0,.slice none 0 0,.slice none 0 0,.slice none 0 0,.slice none 0 0]) Q1 aa<|aa)<|e<|ra aa fun aC O b9 aj aE=> ?_
 have ci:=aj.size
 refine ay<|ax<|az fun bu=> ?_
 have c:(fun w'=>Wk O w') O.drew:=(Md.refl _ _).drew
 refine eB (fun w'=>Wk O w') 14 aa wide c<|bz 0 aa (fun _=>mv) (fun _=>c)<|bz 1 aa (fun _=>mv) (fun _=>c)<|bz 2 aa (fun _=>mv) (fun _=>c)<|bz 3 aa (fun _=>nc aa) (fun _=>c)<|bz 4 aa (fun _=>fa tZ aa) (fun _=>c)<|dU 5 aa (fun w' G=>ld eF aa<|Wk.aI G<|(aY aE).trans aa) c<|bz 7 aa (fun _=>mv) (fun _=>c)<|bz 8 aa (fun _=>nc aa) (fun _=>c)<|bz 9 aa (fun _=>fa MF aa) (fun _=>c)<|dU 10 aa (fun w' G=>ld Ha aa<|Wk.aI G<|(aY aE).trans aa) c<|iY 6 aa ag<|cl tB (th ad.heap.size fb mc F V O.drew ((aK.wk aj.md).wk c) (by simp only [fV] at bT; omega) a1) aa fun v37 bl bK=> ?_
 obtain ⟨⟨V2,rfl,bR⟩,hE37⟩:=bK
 have cj:=hE37.size
 have ct:=c.size
 have a5:(fun w'=>Wk O w') bl:=c.trans hE37
 refine ⟨a5,?_⟩
 refine iY 11 aa ag<|cl IY (KW B wb mb va vs xs bl (((aN.wk aj.md).wk c).wk hE37) ab fun x A=>(bS.1 x A).2.1) aa fun bj ar bL=> ?_
 obtain ⟨⟨ws,a8,bU,_⟩,hE42⟩:=bL
 have cn:=hE42.size
 have ac:=HC bR hE42
 have a6:=Wk.aB hE42<|Wk.aB hE37<|Wk.aB c aE
 have aM:(fun w'=>Wk O w') ar:=a5.trans hE42
 refine ⟨aM,?_⟩
 refine bz 12 aa (fun _=>nc aa) (fun _=>aM)<|bz 13 aa (fun _=>fa rO aa) (fun _=>aM)<|c5 14 aa ag ag<|gi xc aa aa aa (vQ (ej ac.o9) (ej ac.fZ) (ej ac.fz)<|ej ac.ea) a6 (by simp) fun cw aZ bD=> ?_
 have cr:=aZ.size
 refine bz 15 aa (fun _=>nc aa) (fun h=>c7<|(show true =_ from by kernel_rfl).trans h)<|bz 16 aa (fun _=>fa xL aa) (fun h=>c7<|(show true =_ from by kernel_rfl).trans h)<|c5 17 aa ag ag<|dF By aa aa (v:=bj) (ej a8) bD (by show 15 < 16; omega) fun aP aX bC=> ?_
 have cq:=aX.size
 have U:=aZ.trans' aX fun q C h=>h
 have I:TF ar [66] (fun q=>q=aC):=TF.eq (dt a6) aw
 have bF:Wk O ar:=c.trans<|hE37.trans hE42
 have Z:Wk E ar:=aj.md.trans bF
 have aH:Wk E aP:=Z.trans' U fun q C h=>by omega
 obtain ⟨b6,bX,_⟩:=(aK.wk Z).cm
 obtain ⟨b7,bY,_⟩:=(aN.wk Z).mp
 have bN:eQ aP ad.heap.size aC ⟨fb,mc,wb,mb,V,V2,va,bj,vs,ws⟩ F xs:=⟨bC,(aK.wk Z).md U I aw (I.no (dw bX) aw),vR (HA ac ab) U I aw,Lm ((aN.wk Z).md U I aw<|I.no (dw bY) aw) ab,eS (cW a8 U I aw) ab,(bU.md U fun k hk cur z bZ=>I.no (dt bZ) aw hk).mono ab⟩
 refine eA ag<|bu<|ak fun bo=>p mv<|p (cT (ps:= []) (L:= [.int .i64 0,.int .i64 0,.int .i64 0]) qj aa<|aa)<|p aA<|e<|gi gY aa aa aa aa (Wk.aB (Y.trans aH) ae) aw fun cx a0 bE=>nl ?_
 refine bo<|rt<|ew aa dX (dB (cs:= [.int .i64 0,.int .i64 0,.int .i64 0]) aa jz aa fun j J=>(aY bE).trans<|by match j,J with | 0,_=>rfl | 1,_=>rfl | 2,_=>rfl) ?_
 refine ⟨⟨_,_,_,_,aa,?_⟩,(al.md.trans<|Y.trans aH).trans' a0 fun q C h=>by omega⟩
 rw [EB A hd]
 have bO:TF aP [49] (fun q=>q=i):=TF.eq (dt<|Wk.aB (Y.trans aH) ae) aw
 exact ⟨ad.heap.size,aC,_,ab,aa,bN.rV a0 bO aw (fun h:mc=i=>by have :=ai.lo.2; omega) (fun h:mb=i=>by omega),ff.of A hd ⟨seen,aR⟩ ai.jb⟩
end Go.Hb
end
section
namespace Go.Hb
open Go.Hb.je Go.Hb.iT Go.Hb.jU Go.Hb.ke
def fO (xs:List bo) (n:Int):Tx:=if 0≤n∧n < xs.length then (xs.getD n.toNat ([],[])).1 else []
def jr (F:aG) (n:Int):cG:=if 0≤n∧n < F.rules.length then F.rules.getD n.toNat di else di
theorem nL {xs:List bo} {k:Nat} {x:bo} (h:xs[k]? =some x):fO xs k=x.1∧flagsOf xs k=x.2∧k < xs.length∧xs.getD k ([],[])=x:=by
 have hk:=(eH.1 h).1
 have hd:xs.getD k ([],[])=x:=by rw [cX,h]; rfl
 refine ⟨?_,?_,hk,hd⟩
 · unfold fO; rw [if_pos ab,jv,hd]
 · unfold flagsOf; rw [if_pos ab,jv,hd]
theorem tt {xs:List bo} {n:Int} (h:¬(0≤n∧n < xs.length)):fO xs n= []∧flagsOf xs n= []:=by
 unfold fO flagsOf; rw [if_neg h,if_neg h]; exact ⟨rfl,rfl⟩
theorem uv {F:aG} {k:Nat} {r:cG} (h:F.rules[k]? =some r):jr F k=r∧bY F k=r.next∧k < F.rules.length∧F.rules.getD k di=r:=by
 have hk:=(eH.1 h).1
 have hd:F.rules.getD k di=r:=by rw [cX,h]; rfl
 refine ⟨?_,?_,hk,hd⟩
 · unfold jr; rw [if_pos ab,jv,hd]
 · unfold bY; rw [if_pos ab,jv,hd]
theorem yJ {F:aG} {n:Int} (h:¬(0≤n∧n < F.rules.length)):jr F n=di∧bY F n= []:=by
 unfold jr bY; rw [if_neg h,if_neg h]; exact ⟨rfl,rfl⟩
theorem Rm {w:World} {B tb:Nat} {q:fX} {F:aG} {xs:List bo} (h:eQ w B tb q F xs) {k:Nat} {x:bo} (E:xs[k]? =some x):∃ i ce a c,q.ve= .slice i xs.length ce∧Hb.aI w.heap tb 15=some (.slice i xs.length ce)∧aE w.heap i (jY<|xs.zip q.ws)∧(xs.zip q.ws)[k]? =some (x,.slice a x.2.length c)∧Tg w B 51 x.2.length (.slice a x.2.length c) (x.2.map aR):=by
 obtain ⟨i,ce,C⟩:=cU h.oe
 have G:=h.oe
 rw [C] at G
 have hk:=(eH.1 E).1
 obtain ⟨v,I,A⟩:=dm.get h.ef (show k < (xs.map (·.2)).length by rw [eX]; exact hk)
 have J:(xs.map (·.2)).getD k []=x.2:=by rw [cX,gu,E]; rfl
 rw [J] at A
 obtain ⟨a,c,rfl⟩:=A.slice
 exact ⟨i,ce,a,c,C,by rw [← C]; exact (aY h.cells).trans aa,(aV G).2,iR.2 ⟨E,I⟩,A⟩
theorem Ro {w:World} {B tb:Nat} {c:fX} {F:aG} {xs:List bo} (h:eQ w B tb c F xs):∃ a ce,Hb.aI w.heap tb 15=some (.slice a xs.length ce):=by
 obtain ⟨a,ce,i⟩:=cU h.oe
 exact ⟨a,ce,by rw [← i]; exact (aY h.cells).trans aa⟩
theorem Rp {w:World} {B tb:Nat} {a:fX} {F:aG} {xs:List bo} (h:eQ w B tb a F xs):∃ ar cr,Hb.aI w.heap tb 14=some (.slice ar F.rules.length cr):=by
 obtain ⟨ar,cr,c⟩:=cU h.ax.ea
 exact ⟨ar,cr,by rw [← c]; exact (aY h.cells).trans aa⟩
theorem HB {w:World} {B:Nat} {F:aG} {V:dQ} (h:m3 w B F V) {k:Nat} {r:cG} (q:F.rules[k]? =some r):∃ ar cr a c,V.v12= .slice ar F.rules.length cr∧aE w.heap ar (eC<|F.rules.zip V.rn)∧(F.rules.zip V.rn)[k]? =some (r,.slice a r.next.length c)∧Tg w B 51 r.next.length (.slice a r.next.length c) (r.next.map aR):=by
 obtain ⟨ar,cr,C⟩:=cU h.ea
 have A:=h.ea
 rw [C] at A
 have hk:=(eH.1 q).1
 obtain ⟨v,E,i⟩:=dm.get h.nx (show k < (F.rules.map (·.next)).length by rw [eX]; exact hk)
 have G:(F.rules.map (·.next)).getD k []=r.next:=by rw [cX,gu,q]; rfl
 rw [G] at i
 obtain ⟨a,c,rfl⟩:=i.slice
 exact ⟨ar,cr,a,c,C,(aV A).2,iR.2 ⟨q,E⟩,i⟩
end Go.Hb
end
namespace Go.Hb
def PW:Go.Shelf.Ren:=⟨fun n=>if n=125 then 111 else if n=128 then 168 else if n=129 then 169 else if n=189 then 71 else if n=215 then 231 else if n=216 then 165 else if n=257 then 110 else if n=294 then 159 else if n=295 then 160 else if n=296 then 161 else if n=297 then 162 else if n=298 then 163 else if n=299 then 164 else if n=300 then 166 else if n=301 then 167 else if n=328 then 226 else if n=329 then 227 else if n=330 then 228 else if n=331 then 229 else if n=332 then 230 else if n=343 then 257 else 0,fun n=>if n=0 then 0 else if n=3 then 3 else if n=4 then 4 else if n=5 then 5 else if n=9 then 9 else if n=28 then 75 else if n=46 then 226 else if n=51 then 290 else if n=53 then 158 else if n=131 then 287 else if n=182 then 282 else if n=183 then 283 else if n=218 then 340 else if n=222 then 344 else if n=228 then 365 else if n=229 then 245 else 0,fun n=>n⟩
theorem C7:Go.Proofs.Lays.n189 ao PW where
 mixed:=ag
 f125:=ag
 f128:=ag
 f129:=ag
 f189:=ag
 f215:=ag
 f216:=ag
 f257:=ag
 f294:=ag
 f295:=ag
 f296:=ag
 f297:=ag
 f298:=ag
 f299:=ag
 f300:=ag
 f301:=ag
 f328:=ag
 f329:=ag
 f330:=ag
 f331:=ag
 f332:=ag
 f343:=ag
 t0:=ag
 a0:=fun _=>ag
 z0:=fun _=>ag
 v0:=fun _=>ag
 t3:=ag
 a3:=fun _=>ag
 z3:=fun _=>ag
 v3:=fun _=>ag
 t4:=ag
 a4:=fun _=>ag
 z4:=fun _=>ag
 v4:=fun _=>ag
 t5:=ag
 a5:=fun _=>ag
 z5:=fun _=>ag
 v5:=fun _=>ag
 t9:=ag
 a9:=fun _=>ag
 z9:=fun _=>ag
 v9:=fun _=>ag
 t28:=ag
 a28:=fun _=>ag
 z28:=fun _=>ag
 v28:=fun _=>ag
 t46:=ag
 a46:=fun _=>ag
 z46:=fun _=>ag
 v46:=fun _=>ag
 t51:=ag
 a51:=fun _=>ag
 z51:=fun _=>ag
 v51:=fun _=>ag
 t53:=ag
 a53:=fun _=>ag
 z53:=fun _=>ag
 v53:=fun _=>ag
 t131:=ag
 a131:=fun _=>ag
 z131:=fun _=>ag
 v131:=fun _=>ag
 t182:=ag
 a182:=fun _=>ag
 z182:=fun _=>ag
 v182:=fun _=>ag
 t183:=ag
 a183:=fun _=>ag
 z183:=fun _=>ag
 v183:=fun _=>ag
 t218:=ag
 a218:=fun _=>ag
 z218:=fun _=>ag
 v218:=fun _=>ag
 t222:=ag
 a222:=fun _=>ag
 z222:=fun _=>ag
 v222:=fun _=>ag
 t228:=ag
 a228:=fun _=>ag
 z228:=fun _=>ag
 v228:=fun _=>ag
 t229:=ag
 a229:=fun _=>ag
 z229:=fun _=>ag
 v229:=fun _=>ag
theorem QG (B n:Nat) (v:Value) (a:List Int) (w:World) (q:bp w B 3 1 v n (a.map<|gG .i64)) (I:a.length≤1048576):
 bd ao 71 [v].toArray w (fun G w'=>G= .tuple #[]∧bp w' B 3 1 v n ((a.mergeSort fun x y=>decide (x≤y)).map<|gG .i64)∧Md (fun k=>v.ownBlock=some k) w w'):=by
 have hn:a.length=n:=by have :=q.1; simpa using this
 have hlen:(a.mergeSort fun x y=>decide (x≤y)).length=a.length:=List.length_mergeSort _
 rcases q.2 with ⟨rfl,J⟩ | ⟨g,cap,cur,rfl,A,i,h1,h2,h3,h4⟩
 · have E:a= []:=gr ab
   subst E
   refine jQ (Any.slices_Sort_int_none C7 none 0 w) ?_
   rintro e w' ⟨rfl,rfl⟩
   exact ⟨_,aa,aa,by rw [List.mergeSort_nil]; exact q,Md.refl _ _⟩
 · subst hn
   rw [Nat.mul_one] at h4
   refine jQ (calls_of_every_depth fun D=>AnyS.slices_Sort_int_alone C7 D g 0 cap a w (holds_of_blockI i h4) (cy.1 i).1 ab) ?_
   rintro e w' ⟨rfl,m,os,rfl⟩
   have c:=grownBy_sortedI (w:=w) (g:=g) (n:=m) (os:=os) (a.mergeSort fun x y=>decide (x≤y)).toArray
   refine ⟨_,aa,aa,ownsRow_sortedI hlen A i h1 h2 h3,⟨c.os,c.output,c.size,fun k hk C=>c.block k hk fun he=>C ?_⟩⟩
   simp only [fT]; exact he.symm
end Go.Hb
