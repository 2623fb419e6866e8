/-
  Walks and plain laws that the law rests on, laid together. No conditions but those that each theorem names.
-/
import Derived.Test.YtkiemnnhcilhpaaGreatDoorMnDicRemarks3
set_option linter.unusedVariables false
section
set_option maxRecDepth 20000
set_option maxHeartbeats 1000000
namespace Go.Hb.k3
open Go.Hb.cU
open Go.Proofs
open Go.Hb.fX
theorem sR {h:Array Obj} {b:Nat} {f:UInt8→Bool} (a:ba h b (b0 f)) (c:UInt8):Hb.aA h b (0 +((c.toNat / 64:Nat):Int).toNat*1)=some (.int .u64 (cD f (c.toNat / 64))):=by
 have hc:=UInt8.toNat_lt c
 rw [a.aA,show 0 +((c.toNat / 64:Nat):Int).toNat*1=c.toNat / 64 from by omega]; exact pG f (by omega)
theorem z5 {h:Array Obj} {b:Nat} {f:UInt8→Bool} {c:UInt8} (a:ba h b ((b0 f).set (0 +((c.toNat / 64:Nat):Int).toNat*1) (.int .u64 ((cD f (c.toNat / 64) ||| 2 ^ (c.toNat % 64):Nat):Int)))):ba h b (b0 (fun x=>f x || decide (x=c))):=by
 rw [show 0 +((c.toNat / 64:Nat):Int).toNat*1=c.toNat / 64 from by omega,z3] at a; exact a
theorem z4 {f g:UInt8→Bool} (h:∀ b,f b=g b):b0 f=b0 g:=by rw [show f=g from funext h]
theorem CS {l:List UInt8} {i:Nat} (h:i < l.length) (x:UInt8):(decide (x∈l.take i) || decide (x=l.getD i 0))=decide (x∈l.take (i+1)):=by
 rw [im l i 0 h,← Bool.decide_or]
 exact decide_eq_decide.2 (by rw [List.mem_append,List.mem_singleton])
theorem qO {w:World} {B e n cp i:Nat} {a:Option Addr} {l:List UInt8} (h:w.ownsRow B e 1 (.slice a n cp) n (U8 l)) (hi:i≤n) (hn:0 < n):w.ownsRow B e 1 (.slice a i cp) i (U8 (l.take i)):=by
 have ha:a≠none:=by
  rintro rfl
  rcases h.2 with ⟨_,h5⟩ | ⟨g,cap,cur,h4,_⟩
  · omega
  · simp at h4
 have :=vt h hi ha
 rw [Nat.mul_one] at this
 unfold U8 at*
 rwa [List.map_take]
theorem EA {w:World} {B e n cp:Nat} {a:Option Addr} {xs:List Value} (h:w.ownsRow B e 1 (.slice a n cp) n xs) (hn:0 < n):∃ gg,a=some ⟨gg,0,none⟩:=by
 rcases h.2 with ⟨_,h5⟩ | ⟨g,cap,cur,h4,_⟩
 · omega
 · simp only [Value.slice.injEq] at h4; exact ⟨g,h4.1⟩
theorem GI {w:World} {B e n cp j:Nat} {a:Option Addr} {l:List UInt8} (h:w.ownsRow B e 1 (.slice a n cp) n (U8 l)):ao w.heap (dm a cp j 1) (U8 (l.drop j)):=by
 have h2:=(aG h).2.drop (cap:=cp) (k:=j) (size:=1) (by have h1:=h.1; have h3:=(aG h).1; omega)
 rw [Nat.mul_one] at h2
 unfold U8 at*
 rwa [List.map_drop]
theorem rh {w:World} {B e n:Nat} {v:Value} {l:List UInt8} (h:w.ownsRow B e 1 v n (U8 l)):l.length=n:=by have :=h.1; rw [nb] at this; omega
theorem vB (b:Nat) (c:UInt8) (f:UInt8→Bool) (w:World) (i:ba w.heap b (b0 f)):
 aT Tryz.prog 136 (List.toArray [aW b,.int .u8 c.toNat]) w (fun v w'=>v= .tuple #[]∧ba w'.heap b (b0 (fun x=>f x || decide (x=c)))∧Md (fun q=>q=b) w w'):=by
 have hc8:=UInt8.toNat_lt c
 refine enter Tryz.func136 rfl Tryz.ntmps136 rfl ?_
 have a:(fun w'=>Wk w w') w.drew:=(Md.refl _ _).drew
 refine dj (fun w'=>Wk w w') 12 rfl wide a (aQ 0 rfl (aW b) a (aQ 1 rfl (.int .u8 c.toNat) a (a7 2 rfl (fun _=>shr rfl rfl (by decide) (vU c)) (fun _=>a) (a7 3 rfl (fun _=>nc rfl) (fun _=>a) (a7 4 rfl (fun _=>iH kE rfl rfl (by omega)) (fun _=>a) (cY 5 rfl (fun w' s=>ld k5 rfl (Wk.aA s (sR i c))) a (aQ 6 rfl (.int .u8 c.toNat) a ?_)))))))
 refine a7 7 rfl (fun _=>nn rfl rfl (rR c)) (fun _=>a) (a7 8 rfl (fun _=>shl rfl rfl (by omega) (FR (by omega))) (fun _=>a) (a7 9 rfl (fun _=>rY rfl rfl (Ew (l0 _ _) (Nat.pow_lt_pow_right (by decide) (by omega)))) (fun _=>a) (a7 10 rfl (fun _=>nc rfl) (fun _=>a) (a7 11 rfl (fun _=>iH kE rfl rfl (by omega)) (fun _=>a) (bP 12 rfl (by kernel_rfl) (by kernel_rfl) (st Az rfl rfl (rfl) (a.B i) (by rw [nD]; omega) fun A p j=> ?_))))))
 have hB0:=z5 j
 refine di (by kernel_rfl) ?_
 refine f0 rfl ?_
 exact ⟨rfl,hB0,Md.trans (Md.refl _ _).drew p⟩
theorem Cs (f:UInt8→Bool) (c:UInt8) (w:World):
 aT Tryz.prog 153 (List.toArray [.agg (b0 (f)).toArray,.int .u8 c.toNat]) w (fun v w'=>v= .bool (f c)∧Wk w w'):=by
 have hc8:=UInt8.toNat_lt c
 refine enter Tryz.func153 rfl Tryz.ntmps153 rfl ?_
 refine ae (fun _ a=>(e (iw rfl fun q s hb2 j hB2=>aj (((a _ _ (ae (fun _ i=> ?_))))))))
 refine ag (.int .u8 c.toNat) (p (shr rfl rfl (by decide) (vU c)) (p (iH kE rfl rfl (by omega)) (p (ld k5 rfl (sR hB2 c)) (ag (.int .u8 c.toNat) (p (nn rfl rfl (rR c)) (p (shr rfl rfl (by omega) (FX _ (by omega))) (p (nn rfl rfl (xU (Nat.lt_of_le_of_lt (Nat.div_le_self _ _) (l0 _ _)))) ?_)))))))
 exact p (bu rfl rfl) (aj (((i _ _ (rt (f1 rfl rfl (⟨congrArg Value.bool (G0 f c),j.md⟩)))))))
theorem qN (f:UInt8→Bool) (w:World):
 aT Tryz.prog 135 (List.toArray [.agg (b0 (f)).toArray]) w (fun v w'=>v= .agg (b0 (fun x=> !f x)).toArray∧Wk w w'):=by
 refine enter Tryz.func135 rfl Tryz.ntmps135 rfl ?_
 refine ae (fun _ i=>(e (iw rfl fun C w1 G c hB1=>e (al kZ fun E J hb2 a hB2=>ak ((i _ _ (ae (fun _ q=> ?_))))))))
 refine p (iH kE rfl rfl (by omega)) (p (ld k5 rfl ((a.md.B hB1).aA 0)) (p (nE rfl) (p (iH kE rfl rfl (by omega)) (p (ld k5 rfl ((a.md.B hB1).aA 1)) (p (nE rfl) (p (iH kE rfl rfl (by omega)) (p (ld k5 rfl ((a.md.B hB1).aA 2)) ?_)))))))
 refine p (nE rfl) (p (iH kE rfl rfl (by omega)) (p (ld k5 rfl ((a.md.B hB1).aA 3)) (p (nE rfl) (p (rX (ps:= [(0,.int .u64 (cD (fun x=> !f x) 0:Nat)),(1,.int .u64 (cD (fun x=> !f x) 1:Nat)),(2,.int .u64 (cD (fun x=> !f x) 2:Nat)),(3,.int .u64 (cD (fun x=> !f x) 3:Nat))]) (L:= [.int .u64 (cD (fun x=> !f x) 0:Nat),.int .u64 (cD (fun x=> !f x) 1:Nat),.int .u64 (cD (fun x=> !f x) 2:Nat),.int .u64 (cD (fun x=> !f x) 3:Nat)]) rU rfl (rfl)) (e (bJ jJ rfl (vs:=b0 (fun x=> !f x)) rfl rfl rfl hB2 (by decide) fun w3 A s=>ak ((q _ _ ?_))))))))
 exact rt (mq rfl (dd rfl fP rfl (fun j I=>by rw [Nat.zero_add]; exact s.aA j)) (⟨rfl,Md.trans' (Md.trans c.md a.md) A (fun k hk h=>by have :=c.md.size; omega)⟩))
theorem ug (f:UInt8→Bool) (c:UInt8) (ci:Int) (w:World) (a:(c.toNat:Int)=ci):aT Tryz.prog 153 (List.toArray [.agg (b0 (f)).toArray,.int .u8 ci]) w (fun v w'=>v= .bool (f c)∧Wk w w'):=by
 subst a; exact Cs f c w
theorem r5 (f:UInt8→Bool) (w:World):
 aT Tryz.prog 152 (List.toArray [.agg (b0 (f)).toArray]) w (fun v w'=>World.ownsRow w' w.heap.size 5 1 (v) ((bytesOf f)).length (U8 ((bytesOf f)))∧Wk w w'):=by
 refine enter Tryz.func152 rfl Tryz.ntmps152 rfl ?_
 refine ae (fun _ O=>(e (iw rfl fun ai w1 aB G hB1=>aj (((O _ _ (ae (fun _ V=> ?_))))))))
 refine aj (((V _ _ (sq (fun _ Y=>ae (fun _ Z=>(p mv (nl ?_))))))))
 refine tn (Z _ _ (aw (lp (fun J E wI=> ∃ (i:Nat) (a:Value),(i≤256)∧(World.ownsRow wI w1.heap.size 5 1 (a) ((jD f i)).length (U8 ((jD f i))))∧(Wk w1 wI)∧(E 1=aW ai)∧(E 3=a)∧(E 5=U i)∧(256 - i=J)) _ ⟨0,.slice none 0 0,(by omega),(World.ownsRow_nil _ _ _ _),(Md.refl _ _),rfl,rfl,rfl,rfl⟩ ?_)))
 rintro J E wI ⟨i,a,hi,C,q,ar,av,ax,rfl⟩
 refine fx 1 ar (fx 3 av (fx 5 ax ?_))
 have az:Wk w wI:=Md.trans G.md q
 have hbl:=mh f i
 have hs1:=q.size
 refine ae (fun _ aa=>(p (lt rfl rfl) (ak ((aa _ _ (sq (fun _ ab=>cd rfl (fun an=> ?_) (fun an=> ?_))))))))
 refine aE (tn (ab _ _ (sq (fun _ s=>aw (ae (fun _ ac=>(ag (U i) (p (bD (U i) rfl) ?_))))))))
 refine ak ((ac _ _ (ae (fun _ ah=>(p (cR fP rfl (rfl) (fun j aF=>by rw [Nat.zero_add]; exact (q.B hB1).aA j)) (ag (U i) (p (iZ u5 lW rfl (rp (by omega))) (e (cl ss (ug f (UInt8.ofNat i) _ _ (wS i (by omega))) rfl fun v11 w11 hR11=> ?_)))))))))
 obtain ⟨rfl,c⟩:=hR11
 refine ak ((ah _ _ (cb rfl (fun I=> ?_) (fun I=> ?_))))
 refine rg rfl (ag (a) (ag (U i) (p (iZ u5 lW rfl (rp (by omega))) (e (gq iL rfl rfl fun b15 w15 aC A al=>e (ap iL (aJ (aJ C c) A.md) rfl (by have :=c.size; have :=A.md.size; omega) rfl (ao.dz al) (rfl) (rfl) (by omega) (by omega) fun ay w16 M hM16 hz16 aD=> ?_))))))
 rw [← wS i (by omega)] at M
 have ho16x:=vp M
 have am:Wk w1 w16:=Wk.own (Md.trans (Md.trans q c) A.md) (aJ (aJ C c) A.md) hM16 (Nat.le_refl _)
 refine p au (nl (bn (tn (s _ _ (rg rfl (p (ad rfl rfl (bC (by omega))) (p mv (nl ?_))))))))
 exact tn (⟨_,by omega,i+1,ay,(by omega),((by rw [r4,if_pos I]; exact ho16x)),am,rfl,rfl,rfl,rfl⟩)
 refine aE (bn (tn (s _ _ (rg rfl (p (ad rfl rfl (bC (by omega))) (p mv (nl (tn ?_))))))))
 exact ⟨_,by omega,i+1,a,(by omega),((by rw [r4,if_neg (by rw [I]; exact Bool.noConfusion),List.append_nil]; exact aJ C c)),(Md.trans q c),rfl,rfl,rfl,rfl⟩
 refine ext (te _ (te _ (be (tn (Y _ _ (ae (fun _ s=>(ag (a) ?_))))))))
 refine p (bD (a) rfl) (ak ((s _ _ (rt (f1 rfl rfl ?_)))))
 have aq:i=256:=by omega
 subst aq
 exact ⟨gk C G.md.size,Md.trans G.md q⟩
theorem z9 (s:List UInt8) (w:World) (hs:s.length≤1048576):
 aT Tryz.prog 151 (List.toArray [str s]) w (fun v w'=>v= .agg (b0 (fun x=>decide (x∈s))).toArray∧Wk w w'):=by
 refine enter Tryz.func151 rfl Tryz.ntmps151 rfl ?_
 refine ae (fun _ V=>(e (al kZ fun A aF hb2 M hB2=>ak ((V _ _ (ae (fun _ Y=>(e (al kZ fun c w3 aC O aj=> ?_)))))))))
 have am:ba w3.heap c (b0 (fun x=>decide (x∈s.take 0))):=by rw [show (fun x=>decide (x∈s.take 0))=(fun _:UInt8=>false) from funext fun x=>by simp,pH]; exact aj
 refine ak ((Y _ _ (sq (fun _ Z=>ae (fun _ aa=>(ag (str s) (p (bY u9 rfl rfl) (p mv ?_))))))))
 refine ak ((aa _ _ (aw ?_)))
 have hb2l:=hB2.lt
 refine lp (fun C a wI=> ∃ (i:Nat),(i≤s.length)∧(ba wI.heap c (b0 (fun x=>decide (x∈s.take i))))∧(ba wI.heap A [.int .u64 0,.int .u64 0,.int .u64 0,.int .u64 0])∧(Wk w wI)∧(a 0=str s)∧(a 2=aW A)∧(a 3=aW c)∧(a 6=U (s.length))∧(a 7=U i)∧(s.length - i=C)) _ ⟨0,(by omega),am,(O.md.B hB2),(Md.trans M.md O.md),rfl,rfl,rfl,rfl,rfl,rfl⟩ ?_
 rintro C a wI ⟨i,hi,E,G,I,au,av,ax,ay,az,rfl⟩
 refine fx 0 au (fx 2 av (fx 3 ax (fx 6 ay (fx 7 az (ae (fun _ ab=>(p (lt rfl rfl) (ak ((ab _ _ (sq (fun _ ac=>cd rfl (fun hc8=> ?_) (fun hc8=> ?_)))))))))))))
 refine aE (tn (ac _ _ (sq (fun _ q=>aw (ae (fun _ ah=>(ag (U i) (p (bD (U i) rfl) ?_))))))))
 refine ak ((ah _ _ (rg rfl (ag (str s) (ag (U i) (p (fF u9 rfl rfl (by omega)) (e (cl si (vB c (s.getD i 0) _ _ E) rfl fun aD w13 aq=> ?_))))))))
 obtain ⟨rfl,ai,J⟩:=aq
 have ao:Wk w w13:=Md.trans' I J (fun k hk h=>by have :=M.md.size; omega)
 refine nl (bn (tn (q _ _ (rg rfl (p (ad rfl rfl (bC (by omega))) (p mv (nl (tn ?_))))))))
 exact ⟨_,by omega,i+1,(by omega),((by rw [z4 (fun x=>(CS (show i < s.length by omega) x).symm)]; exact ai)),(J.B G (fun h=>by omega)),ao,rfl,rfl,rfl,rfl,rfl,rfl⟩
 refine ext (te _ (te _ (be (tn (Z _ _ (ae (fun _ q=>(p (cR fP rfl (rfl) (fun j ar=>by rw [Nat.zero_add]; exact (E).aA j)) ?_))))))))
 refine e (bJ jJ rfl (vs:=b0 (fun x=>decide (x∈s.take i))) rfl rfl rfl G (by decide) fun w7 ap an=>ak ((q _ _ (rt (mq rfl (dd rfl fP rfl (fun j ar=>by rw [Nat.zero_add]; exact an.aA j)) ?_)))))
 have aB:s.take i=s:=List.take_of_length_le (by omega)
 rw [aB]
 exact ⟨rfl,Md.trans' I ap (fun k hk h=>by omega)⟩
theorem CU (s:List UInt8) (c:UInt8) (w:World):
 aT Tryz.prog 149 (List.toArray [str s,.int .u8 c.toNat]) w (fun v w'=>v= .int .i64 (cO c s)∧Wk w w'):=by
 refine enter Tryz.func149 rfl Tryz.ntmps149 rfl ?_
 refine ae (fun _ a=>(aj (((a _ _ (ae (fun _ i=>(ag (str s) ?_))))))))
 exact ag (.int .u8 c.toNat) (e (cl sn (ur s c _) rfl fun j w7 hR7=>aj (((i _ _ (rt (f1 rfl rfl (hR7))))))))
theorem Ar (s pr:List UInt8) (w:World) (hs:s.length≤1099511627776) (C:pr.length≤1099511627776):
 aT Tryz.prog 174 (List.toArray [str s,str pr]) w (fun v w'=>v= .tuple #[str (dR s pr),.bool (decide (s.take pr.length=pr))]∧Wk w w'):=by
 refine enter Tryz.func174 rfl Tryz.ntmps174 rfl ?_
 refine ae (fun _ j=>(p au (aj (((j _ _ (sq (fun _ q=>sq (fun _ A=> ?_)))))))))
 refine rg rfl (ag (str s) (ag (str pr) (e (cl sg (uf s pr _ hs C) rfl fun E w8 hR8=> ?_))))
 obtain ⟨rfl,i⟩:=hR8
 refine p (no rfl) (ak ((A _ _ (cb rfl (fun c=> ?_) (fun c=> ?_)))))
 have hpp:¬s.take pr.length=pr:=by simpa using c
 refine ae (fun _ a=>(ag (str s) (p (bD (str s) rfl) (aj (((a _ _ (rt ?_))))))))
 exact tr (f2 rfl rfl rfl (⟨by unfold dR; rw [if_neg hpp,decide_eq_false hpp]; rfl,i⟩))
 have hpp:s.take pr.length=pr:=by simpa using c
 have hpl:=qR hpp
 refine aE (tn (q _ _ (ae (fun _ a=>(ag (str s) (ag (str pr) (p (bY u9 rfl rfl) (p (jS u9 rfl rfl (by omega)) ?_))))))))
 exact p au (aj (((a _ _ (rt (f2 rfl rfl rfl (⟨by unfold dR; rw [if_pos hpp,decide_eq_true hpp]; rfl,i⟩)))))))
theorem As (s pr:List UInt8) (w:World) (hs:s.length≤1099511627776) (j:pr.length≤1099511627776):
 aT Tryz.prog 150 (List.toArray [str s,str pr]) w (fun v w'=>v= .tuple #[str (dR s pr),.bool (decide (s.take pr.length=pr))]∧Wk w w'):=by
 refine enter Tryz.func150 rfl Tryz.ntmps150 rfl ?_
 refine ae (fun _ a=>(p au (aj (((a _ _ (ae (fun _ c=> ?_))))))))
 refine ag (str s) (ag (str pr) (e (cl yU (Ar s pr _ hs j) rfl fun q w8 hR8=> ?_)))
 obtain ⟨rfl,i⟩:=hR8
 refine p (xt rfl rfl) (p (xt rfl rfl) (p au (aj (((c _ _ (rt (f2 rfl rfl rfl ?_))))))))
 exact ⟨rfl,i⟩
theorem Gw (s pr:List UInt8):(dR s pr).length≤s.length:=by unfold dR; split <;> simp
def eD (s:List UInt8) (k:Nat):List UInt8:=(s.drop k).take ((s.drop k).idxOf 93)
theorem ya (s:List UInt8) (k:Nat):(eD s k).length≤s.length:=by unfold eD; rw [List.length_take,List.length_drop]; omega
theorem x9 (s:List UInt8) (k:Nat):(s.take (k+(s.drop k).idxOf 93)).drop k=eD s k:=by
 rw [List.drop_take,Nat.add_sub_cancel_left]; rfl
def j6 (s:List UInt8) (k:Nat):UInt8→Bool:=fun x=>if (eD s k).take 1= [94] then !decide (x∈dR (eD s k) [94]) else decide (x∈dR (eD s k) [94])
theorem yd {s:List UInt8} {k:Nat} (h:(eD s k).take [(94:UInt8)].length= [94]):j6 s k=fun x=> !decide (x∈dR (eD s k) [94]):=by
 funext x; exact if_pos h
theorem ye {s:List UInt8} {k:Nat} (h:¬(eD s k).take [(94:UInt8)].length= [94]):j6 s k=fun x=>decide (x∈dR (eD s k) [94]):=by
 funext x; exact if_neg h
theorem yb (s:List UInt8) (k:Nat) (w:World) (hs:s.length≤1048576) (hk:k≤s.length):
 aT Tryz.prog 134 (List.toArray [str s,U k]) w (fun v w'=>(∃ f,v= .tuple #[.agg (b0 f).toArray,.int .i64 (if cO 93 (s.drop k) < 0 then 0 else ((k+(s.drop k).idxOf 93 +1:Nat):Int)),.bool (!decide (cO 93 (s.drop k) < 0) && decide (dR (eD s k) [94]≠[]))]∧(¬cO 93 (s.drop k) < 0→f=j6 s k))∧Wk w w'):=by
 refine enter Tryz.func134 rfl Tryz.ntmps134 rfl ?_
 refine ae (fun _ ab=>(e (al kZ fun O w4 aL A q=>p au (aj (((ab _ _ (sq (fun _ ac=> ?_)))))))))
 refine rg rfl (ag (str s) (ag (U k) (p (jS u9 rfl rfl (by omega)) (e (cl yE (CU (s.drop k) 93 _) rfl fun aN w14 aB=> ?_)))))
 obtain ⟨rfl,hE14⟩:=aB
 have aM:(s.drop k).length=s.length - k:=List.length_drop
 refine aj (((ac _ _ (sq (fun _ ad=>ae (fun _ ah=>(p mv (p (lt rfl rfl) ?_))))))))
 refine ak ((ah _ _ (cd rfl (fun a=> ?_) (fun a=> ?_))))
 refine ae (fun _ C=>(p (rX (ps:= []) (L:= [.int .u64 0,.int .u64 0,.int .u64 0,.int .u64 0]) rU rfl (rfl)) (e (bJ jJ rfl (vs:=b0 (fun _=>false)) (by rw [pH]; rfl) rfl rfl (hE14.B q) (by decide) fun w3 ay an=>p au (aj (((C _ _ ?_))))))))
 refine rt (tr (tu rfl (dd rfl fP rfl (fun j J=>by rw [Nat.zero_add]; exact an.aA j)) dJ dJ ?_))
 refine ⟨⟨fun _=>false,by rw [if_pos a,decide_eq_true a]; rfl,fun h=>absurd a h⟩,Md.trans' (Md.trans A.md hE14) ay (fun k hk h=>by omega)⟩
 have hix:=lF (c:=93) (l:=s.drop k) a
 have hbl:(eD s k).length≤s.length:=ya s k
 refine aE (tn (ad _ _ (sq (fun _ C=> ?_))))
 have hbe:=x9 s k
 refine rg rfl (ag (str s) (ag (U k) (ag (U k) (p mv (p (bd ((k+(s.drop k).idxOf 93:Nat):Int) rfl rfl (aO (by omega) (by omega))) (p (mT u9 rfl rfl rfl (by omega)) (e (cl yF (As ((s.take (k+(s.drop k).idxOf 93)).drop k) [94] _ (by rw [hbe]; omega) (by decide)) rfl fun aP w25 aa=> ?_))))))))
 rw [hbe] at aa
 obtain ⟨rfl,hE25⟩:=aa
 have htl:=Gw (eD s k) [94]
 refine p mv (p (xt rfl rfl) (p (xt rfl rfl) (p au (aj (((C _ _ (sq (fun _ ai=> ?_)))))))))
 refine rg rfl (p mv (e (cl yG (z9 (dR (eD s k) [94]) _ (by omega)) rfl fun aQ w29 aC=> ?_)))
 obtain ⟨rfl,hE29⟩:=aC
 refine e (al kZ fun M w10 hb10 Z am=> ?_)
 have av:Wk w w10:=Md.trans A.md (Md.trans hE14 (Md.trans hE25 (Md.trans hE29 Z.md)))
 have hB4x:=Z.md.B (hE29.B (hE25.B (hE14.B q)))
 have hb4l:=hB4x.lt
 refine e (bJ jJ rfl (vs:=b0 (fun x=>decide (x∈dR (eD s k) [94]))) rfl rfl rfl am (by decide) fun w5 V G=> ?_)
 have hE5:Wk w w5:=Md.trans' av V (fun k hk h=>by have :=A.md.size; have :=hE14.size; have :=hE25.size; have :=hE29.size; omega)
 have hB4y:=V.B hB4x (fun h=>by have :=q.lt; have :=hE14.size; have :=hE25.size; have :=hE29.size; omega)
 refine ak ((ai _ _ ?_))
 refine cQ (fun i wC=>(ba wC.heap M (b0 (j6 s k)))∧(ba wC.heap O [.int .u64 0,.int .u64 0,.int .u64 0,.int .u64 0])∧(Wk w wC)∧(i 0=str s)∧(i 1=U k)∧(i 4=aW O)∧(i 7= .int .i64 (cO 93 (s.drop k)))∧(i 8=str (dR (eD s k) [94]))∧(i 10=aW M)) ?_ ?_
 refine ae (fun _ E=>(p mv (ak ((E _ _ (cb rfl (fun I=> ?_) (fun I=> ?_)))))))
 refine rg rfl (p (cR fP rfl (rfl) (fun j J=>by rw [Nat.zero_add]; exact (G).aA j)) (e (cl ph (qN (fun x=>decide (x∈dR (eD s k) [94])) _) rfl fun aR aS aD=> ?_)))
 obtain ⟨rfl,hE32⟩:=aD
 refine e (bJ jJ rfl (vs:=b0 (fun x=> !decide (x∈dR (eD s k) [94]))) rfl rfl rfl (hE32.B G) (Nat.le_refl 4) fun w7 Y ao=> ?_)
 have hE7:Wk w w7:=Md.trans' (Md.trans hE5 hE32) Y (fun k hk h=>by have :=A.md.size; have :=hE14.size; have :=hE25.size; have :=hE29.size; omega)
 have hB4z:=Y.B (hE32.B hB4y) (fun h=>by have :=q.lt; have :=hE14.size; have :=hE25.size; have :=hE29.size; omega)
 exact ak ((⟨((by rw [yd (by simpa using I)]; exact ao)),hB4z,hE7,rfl,rfl,rfl,rfl,rfl,rfl⟩))
 exact aE (tn (⟨((by rw [ye (by simpa using I)]; exact G)),hB4y,hE5,rfl,rfl,rfl,rfl,rfl,rfl⟩))
 rintro i wC ⟨aq,ar,ax,aF,aG,aI,aJ,aK,aH⟩
 refine fx 0 aF (fx 1 aG (fx 4 aI (fx 7 aJ (fx 8 aK (fx 10 aH (ae (fun _ E=>(p (cR fP rfl (rfl) (fun j J=>by rw [Nat.zero_add]; exact (aq).aA j)) (ag (U k) (ag (.int .i64 (cO 93 (s.drop k))) (p (bd ((k+(s.drop k).idxOf 93:Nat):Int) rfl rfl (aO (by omega) (by omega))) (p (bd ((k+(s.drop k).idxOf 93 +1:Nat):Int) rfl rfl (aO (by omega) (by omega))) ?_))))))))))))
 refine ag (str (dR (eD s k) [94])) (p (lJ rfl rfl) (e (bJ jJ rfl (vs:=b0 (j6 s k)) rfl rfl rfl ar (by decide) fun w8 az ap=> ?_)))
 have aw:Wk w w8:=Md.trans' ax az (fun k hk h=>by omega)
 refine p au (aj (((E _ _ (rt (tu rfl (dd rfl fP rfl (fun j J=>by rw [Nat.zero_add]; exact ap.aA j)) dJ dJ ?_))))))
 refine ⟨⟨j6 s k,by rw [if_neg a,decide_eq_false a]; rfl,fun _=>rfl⟩,aw⟩
theorem CT (l:List UInt8) (a:Option Addr) (n c:Nat) (x:UInt8) (w:World) (hC:ao w.heap a (U8 l)) (hn:l.length=n) (ap:n≤1048576):
 aT Tryz.prog 154 (List.toArray [.slice a n c,.int .u8 x.toNat]) w (fun v w'=>v= .int .i64 (cO x l)∧Wk w w'):=by
 refine enter Tryz.func154 rfl Tryz.ntmps154 rfl ?_
 refine ae (fun _ I=>(aj (((I _ _ (sq (fun _ J=>ae (fun _ M=> ?_))))))))
 refine ag (.slice a n c) (p (bp jU rfl rfl) (p mv (ak ((M _ _ (aw (lp (fun C q wI=> ∃ (i:Nat),(i≤n)∧(∀ j,j < i→l.getD j 0≠x)∧(wI=w)∧(q 0= .slice a n c)∧(q 1= .int .u8 x.toNat)∧(q 7=U n)∧(q 8=U i)∧(n - i=C)) _ ⟨0,(by omega),((fun j G=>by omega)),rfl,rfl,rfl,rfl,rfl,rfl⟩ ?_)))))))
 rintro C q wI ⟨i,hi,A,ab,ah,ai,al,am,rfl⟩
 refine fx 0 ah (fx 1 ai (fx 7 al (fx 8 am ?_)))
 subst ab
 refine ae (fun _ O=>(p (lt rfl rfl) (ak ((O _ _ (sq (fun _ V=>cd rfl (fun ac=> ?_) (fun ac=> ?_))))))))
 refine aE (tn (V _ _ (sq (fun _ s=>aw (ae (fun _ Y=>(ag (U i) (p (bD (U i) rfl) ?_))))))))
 refine ak ((Y _ _ (ae (fun _ Z=>(ag (.int .u8 x.toNat) (ag (.slice a n c) (ag (U i) (p (aK jK rfl rfl (by omega) (ao.ok (hC) (oO (by omega)))) ?_))))))))
 refine p (ld ni rfl (oN (i:=i) hC (by omega))) (p (bu rfl rfl) (ak ((Z _ _ (cd rfl (fun E=> ?_) (fun E=> ?_))))))
 have an:l.getD i 0=x:=UInt8.toNat_inj.1 (by omega)
 refine ae (fun _ aa=>(ag (U i) (p (bD (U i) rfl) (ak ((aa _ _ (rt (br ?_))))))))
 exact tr (tr (br (tr (f1 rfl rfl (⟨by rw [Db (show i < l.length by omega) A an]; rfl,Md.refl _ _⟩)))))
 refine aE (bn (tn (s _ _ (rg rfl (p (ad rfl rfl (bC (by omega))) (p mv (nl (tn ?_))))))))
 exact ⟨_,by omega,i+1,(by omega),((fun j G=>by rcases Nat.lt_or_ge j i with h | h <;> first | exact A j h | (rw [show j=i by omega]; exact fun h2=>E (by rw [h2])))),rfl,rfl,rfl,rfl,rfl,rfl⟩
 refine ext (te _ (te _ (be (tn (J _ _ (ae (fun _ s=>(p au ?_))))))))
 exact ak ((s _ _ (rt (f1 rfl rfl (⟨by rw [Dc (fun j G=>A j (by omega))]; rfl,Md.refl _ _⟩)))))
theorem AN (l:List UInt8) (i j:Nat) (B n cp gg:Nat) (w:World) (c:World.ownsRow w B 5 1 (.slice (some ⟨gg,0,none⟩) n cp) n (U8 l)) (ab:i < j∧j≤n) (ac:n≤1048576):
 aT Tryz.prog 155 (List.toArray [.slice (some ⟨gg,0,none⟩) n cp,U i,U j]) w (fun v w'=>v= .slice (some ⟨gg,0,none⟩) (i+(n - j)) cp∧World.ownsRow w' B 5 1 (.slice (some ⟨gg,0,none⟩) (i+(n - j)) cp) (i+(n - j)) (U8 (l.take i++l.drop j))∧Md (fun q=>q=gg) w w'):=by
 have hln:=rh c
 have hcp:=(aG c).1
 refine enter Tryz.func155 rfl Tryz.ntmps155 rfl ?_
 refine ae (fun _ s=>(aj (((s _ _ (ae (fun _ A=>(ag (.slice (some ⟨gg,0,none⟩) n cp) ?_))))))))
 refine ag (U i) (ag (U j) (ag (.slice (some ⟨gg,0,none⟩) n cp) (p (bp jU rfl rfl) (p (F2 jK rfl rfl rfl rfl (by omega)) (ak ((A _ _ (sq (fun _ C=> ?_)))))))))
 refine ae (fun _ E=>(ag (U i) (ag (U j) (p (bu rfl rfl) (ak ((E _ _ (cd rfl (fun h=>absurd h (by omega)) (fun aa=> ?_)))))))))
 refine aE (tn (C _ _ (ae (fun _ G=>(ag (.slice (some ⟨gg,0,none⟩) n cp) (p (bp jU rfl rfl) (p au (nl ?_))))))))
 refine tn (G _ _ (sq (fun _ I=> ?_)))
 have a:(fun w'=>Wk w w') w.drew:=(Md.refl _ _).drew
 refine dj (fun w'=>Wk w w') 6 rfl wide a (aQ 0 rfl (.slice (some ⟨gg,0,none⟩) n cp) a (aQ 1 rfl (U i) a (a7 2 rfl (fun _=>ki jK rfl rfl (by omega)) (fun _=>a) (aQ 3 rfl (.slice (some ⟨gg,0,none⟩) n cp) a (aQ 4 rfl (U j) a (a7 5 rfl (fun _=>kj jK rfl rfl (by omega)) (fun _=>a) (bP 6 rfl (by kernel_rfl) (by kernel_rfl) (xX (B:=B) (xs:=U8 (l.take i)) (news:=U8 (l.drop j)) (n:=i) (m:=n - j) iL (qO (aJ c a) (by omega) (by omega)) rfl rfl (show ao _ (dm (some ⟨gg,0,none⟩) cp j 1) (U8 (l.drop j)) from GI (aJ c a)) (by unfold dm; split <;> simp) (by rw [nb,List.length_drop]; omega) (xz _) (by omega) fun w26 O Y=> ?_))))))))
 refine a7 7 rfl (fun _=>au) (fun h=>Bool.noConfusion ((show true =_ from by kernel_rfl).trans h)) (di (by kernel_rfl) ?_)
 refine tn (I _ _ (ae (fun _ J=>(ag (.slice (some ⟨gg,0,none⟩) (i+(n - j)) cp) (ag (.slice (some ⟨gg,0,none⟩) (i+(n - j)) cp) (p (bp jU rfl rfl) (p mv (p (F3 jK rfl rfl rfl (by omega)) ?_))))))))
 refine e (zY jU Hl rfl Y (by simp) rfl (by omega) fun w6 V Z=>ak ((J _ _ (ae (fun _ M=>(ag (.slice (some ⟨gg,0,none⟩) (i+(n - j)) cp) (p (bD (.slice (some ⟨gg,0,none⟩) (i+(n - j)) cp) rfl) (nl ?_))))))))
 exact tn (M _ _ (rt (f1 rfl rfl (⟨rfl,by rw [na]; exact Z,Md.trans (a.mono (fun _ _ h=>h.elim)) (Md.trans O (V.mono (fun q _ h=>by simpa [Value.ownBlock] using h.symm)))⟩))))
end Go.Hb.k3
end
section
set_option maxRecDepth 20000
set_option maxHeartbeats 1000000
namespace Go.Hb.l3
open Go.Hb.cU
open Go.Proofs
open Go.Hb.fX Go.Hb.k3
theorem rZ {s:List UInt8} {k:Nat} (h:(s.drop k).idxOf 93 < (s.drop k).length):dR (eD s k) [94]≠[]↔(s.drop k).idxOf 93≠0∧¬((s.drop k).idxOf 93=1∧(s.drop k).getD 0 0=94):=by
 unfold eD dR
 generalize hl:s.drop k=l at*
 cases l with
 | nil=>simp at h
 | cons b r=>
   generalize hm:(b::r).idxOf 93=m at*
   cases m with
   | zero=>simp
   | succ m=>
     simp only [List.length_cons] at h
     simp only [List.take_succ_cons,List.length_singleton,List.take_zero,List.getD_cons_zero,List.drop_succ_cons,List.drop_zero]
     by_cases hb:b=94
     · subst hb
       rw [if_pos rfl]
       cases m with
       | zero=>simp
       | succ m=>
         cases r with
         | nil=>simp at h
         | cons x r=>simp
     · rw [if_neg (by simpa using hb)]
       simp [hb]
theorem yf {s:List UInt8} {k:Nat} (h:(s.drop k).idxOf 93 < (s.drop k).length) (h0:(s.drop k).idxOf 93≠0):j6 s k=ek (91::(s.drop k).take ((s.drop k).idxOf 93 +1)):=by
 funext x
 unfold j6 eD dR ek
 generalize hl:s.drop k=l at*
 cases l with
 | nil=>simp at h
 | cons b r=>
   generalize hm:(b::r).idxOf 93=m at*
   cases m with
   | zero=>exact absurd rfl h0
   | succ m=>
     simp only [List.length_cons] at h
     have hln:(91::List.take (m+1 +1) (b::r)).length=m+3:=by simp only [List.length_cons,List.length_take]; omega
     rw [hln,if_neg (show ¬m+3=1 by omega)]
     have e1:(91::List.take (m+1 +1) (b::r)).getD 1 0=b:=rfl
     have e2:List.take (m+3 - 1) (91::List.take (m+1 +1) (b::r))=91::List.take (m+1) (b::r):=by
      show List.take (m+2) (91::List.take (m+2) (b::r))=_
      rw [List.take_succ_cons,List.take_take,Nat.min_eq_left (by omega)]
     rw [e1,e2]
     simp only [List.take_succ_cons,List.take_zero,List.drop_succ_cons,List.drop_zero,List.length_singleton]
     by_cases hb:b=94
     · subst hb; simp
     · simp [hb]
theorem A3:(fun x:UInt8=> !(fun _:UInt8=>false) x)=ek [46]:=by funext x; simp [ek]
theorem Es {c:UInt8} (h:c≠46):(fun x:UInt8=>(fun _:UInt8=>false) x || decide (x=c))=ek [c]:=by
 funext x
 simp only [ek,List.length_singleton,if_true,Bool.false_or,List.getD_cons_zero]
 exact decide_eq_decide.2 ⟨fun h1=> .inr h1.symm,fun h1=>(h1.resolve_left h).symm⟩
theorem z1 {ps:List (List UInt8)} (h:0 < ps.length):gH ps≠[]:=tI (f:=fun t=>b0 (ek t)) (m:=4) (fun _=>rfl) (by decide) h
theorem z0 {h:Array Obj} {a:Option Addr} {ps:List (List UInt8)} {i:Nat} (hc:ao h a (gH ps)) (hi:i < ps.length):∀ j,j < 4→Hb.aA h (bk a) (fo a+i*4 +j)=(b0 (ek (ps.getD i [])))[j]? :=by
 have :=hZ (f:=fun t=>b0 (ek t)) (m:=4) (fun _=>rfl) hc (List.getElem?_eq_getElem hi)
 rw [List.getD_eq_getElem?_getD,List.getElem?_eq_getElem hi]; exact this
theorem uy {b:UInt8} (h:(b.toNat:Int)=91):b=91:=UInt8.toNat_inj.1 (by have :(91:UInt8).toNat=91:=rfl; omega)
theorem qH {b:UInt8} (h:¬(b.toNat:Int)=91):b≠91:=by rintro rfl; exact h rfl
theorem ux {b:UInt8} (h:(b.toNat:Int)=46):b=46:=UInt8.toNat_inj.1 (by have :(46:UInt8).toNat=46:=rfl; omega)
theorem ve {b:UInt8} (h:¬(b.toNat:Int)=46):b≠46:=by rintro rfl; exact h rfl
theorem vq {w:World} {B:Nat} {v:Value} {l:List (List UInt8)} {x:List UInt8} (h:w.ownsRow B 227 4 v (l.length+1) (gH l++b0 (ek x))):w.ownsRow B 227 4 v (l++ [x]).length (gH (l++ [x])):=by
 rw [List.length_append,zZ]; simpa [gH] using h
theorem AO (l:List UInt8) (i j:Nat) (a c:Int) (B n cp gg:Nat) (w:World) (p:World.ownsRow w B 5 1 (.slice (some ⟨gg,0,none⟩) n cp) n (U8 l)) (s:i < j∧j≤n) (C:n≤1048576) (hi:a=(i:Nat)) (A:c=(j:Nat)):
 aT Tryz.prog 155 (List.toArray [.slice (some ⟨gg,0,none⟩) n cp,.int .i64 a,.int .i64 c]) w (fun v w'=>v= .slice (some ⟨gg,0,none⟩) (i+(n - j)) cp∧World.ownsRow w' B 5 1 (.slice (some ⟨gg,0,none⟩) (i+(n - j)) cp) (i+(n - j)) (U8 (l.take i++l.drop j))∧Md (fun q=>q=gg) w w'):=by
 subst hi A; exact AN l i j B n cp gg w p s C
theorem FW (f:UInt8→Bool) (w:World):
 aT Tryz.prog 137 (List.toArray [.agg (b0 (f)).toArray]) w (fun v w'=>v=str (gS f)∧Wk w w'):=by
 have hbl:(bytesOf f).length≤256:=mh f 256
 have bd:(bytesOf (fun x=> !f x)).length≤256:=mh _ 256
 refine enter Tryz.func137 rfl Tryz.ntmps137 rfl ?_
 refine ae (fun _ aC=>(e (iw rfl fun aL w1 ab J hB1=>aj (((aC _ _ (ae (fun _ aD=> ?_))))))))
 refine p (cR fP rfl (rfl) (fun j aq=>by rw [Nat.zero_add]; exact (hB1).aA j)) (e (cl sr (r5 f _) rfl fun v6 w6 hR6=> ?_))
 obtain ⟨U,aa⟩:=hR6
 obtain ⟨q,a,rfl⟩:=cH U
 have hC6:=(aG U).2
 have I:Wk w w6:=Md.trans J.md aa
 have hB6:=aa.B hB1
 refine aj (((aD _ _ (sq (fun _ aF=>aw (ae (fun _ aH=>(ag (.slice q (bytesOf f).length a) ?_))))))))
 refine p (bp jU rfl rfl) (p (bu rfl rfl) (aj (((aH _ _ (cd rfl (fun a0=> ?_) (fun a0=> ?_)))))))
 refine ae (fun _ A=>(aj (((A _ _ (rt (br (tr ?_))))))))
 exact f1 rfl rfl (⟨by unfold gS; rw [if_pos (show (bytesOf f).length=256 by omega)]; rfl,I⟩)
 refine cQ (fun Y ay=> ∃ (Z:Bool),(Z=decide ((bytesOf f).length=1∧(bytesOf f).getD 0 0≠46∧(bytesOf f).getD 0 0≠91))∧(ay=w6)∧(Y 1=aW aL)∧(Y 3= .slice q (bytesOf f).length a)∧(Y 11= .bool Z)) ?_ ?_
 refine rg rfl (ag (.slice q (bytesOf f).length a) (p (bp jU rfl rfl) (p (bu rfl rfl) (p mv (gs (t:=15) rfl (fun a1=> ?_) (fun a1=> ?_))))))
 refine pg rfl rfl rfl (az (.slice q (bytesOf f).length a) rfl) (pg rfl rfl rfl (aK jK rfl rfl (by omega) (ao.ok (hC6) (oO (by omega)))) (pg rfl rfl rfl (ld ni rfl (oN (i:=0) hC6 (by omega))) (pg rfl rfl rfl (dt rfl rfl) (p (bz rfl) (p mv (gs (t:=21) rfl (fun an=> ?_) (fun an=> ?_)))))))
 refine pg rfl rfl rfl (az (.slice q (bytesOf f).length a) rfl) (pg rfl rfl rfl (aK jK rfl rfl (by omega) (ao.ok (hC6) (oO (by omega)))) (pg rfl rfl rfl (ld ni rfl (oN (i:=0) hC6 (by omega))) (pg rfl rfl rfl (dt rfl rfl) (p (bz rfl) (p au (nl (tn ?_)))))))
 exact ⟨_,((by first | exact decide_eq_decide.2 ⟨fun h=>⟨by omega,by first | exact ve (by omega) | exact fun h=>by omega,by first | exact qH (by omega) | exact fun h=>by omega⟩,fun h=>by have h1:=h.2.2; exact fun h2=>h1 (uy h2)⟩ | rfl)),rfl,rfl,rfl,rfl⟩
 refine sk rfl rfl rfl rfl (sk rfl rfl rfl rfl (sk rfl rfl rfl rfl (sk rfl rfl rfl rfl (p (bc rfl) (p au (nl (tn ?_)))))))
 exact ⟨false,((decide_eq_false (fun h=>h.2.1 (ux (Decidable.of_not_not an)))).symm),rfl,rfl,rfl,rfl⟩
 refine sk rfl rfl rfl rfl (sk rfl rfl rfl rfl (sk rfl rfl rfl rfl (sk rfl rfl rfl rfl (p (bc rfl) (p mv (sk rfl rfl rfl rfl (sk rfl rfl rfl rfl ?_)))))))
 exact sk rfl rfl rfl rfl (sk rfl rfl rfl rfl (p (bc rfl) (aj (((⟨false,((decide_eq_false (fun h=>by omega)).symm),rfl,rfl,rfl,rfl⟩))))))
 rintro Y ay ⟨Z,ab,aQ,a4,a6,a5⟩
 refine fx 1 a4 (fx 3 a6 (fx 11 a5 ?_))
 subst aQ
 refine cb rfl (fun ac=> ?_) (fun ac=> ?_)
 have V:(bytesOf f).length=1∧(bytesOf f).getD 0 0≠46∧(bytesOf f).getD 0 0≠91:=of_decide_eq_true (ab ▸ ac)
 refine ae (fun _ A=>(ag (.slice q (bytesOf f).length a) (p (lj la rfl (hC6) (by simp)) (aj (((A _ _ (rt ?_))))))))
 exact br (tr (f1 rfl rfl (⟨by unfold gS; rw [if_neg (show ¬(bytesOf f).length=256 by omega),if_pos V]; rfl,I⟩)))
 have V:¬((bytesOf f).length=1∧(bytesOf f).getD 0 0≠46∧(bytesOf f).getD 0 0≠91):=of_decide_eq_false (ab ▸ ac)
 refine ae (fun _ A=>(p (cR fP rfl (rfl) (fun j aq=>by rw [Nat.zero_add]; exact (hB6).aA j)) (e (cl ss (ug f 93 _ _ rfl) rfl fun bh w31 aS=> ?_))))
 obtain ⟨rfl,hE31⟩:=aS
 refine aj (((A _ _ (cb rfl (fun ah=> ?_) (fun ah=> ?_)))))
 refine ae (fun _ C=>(p (cR fP rfl (rfl) (fun j aq=>by rw [Nat.zero_add]; exact (hE31.B hB6).aA j)) (e (cl ph (qN f _) rfl fun bi w33 aU=> ?_))))
 obtain ⟨rfl,aN⟩:=aU
 refine e (cl sr (r5 (fun x=> !f x) _) rfl fun bj bo aV=> ?_)
 obtain ⟨av,aO⟩:=aV
 obtain ⟨a8,ba,rfl⟩:=cH av
 refine p (lj la rfl ((aG av).2) (rfl)) (p (cc rfl rfl (by simp only [List.length_cons,List.length_nil]; omega)) (p (cc rfl rfl (by simp only [List.length_cons,List.length_nil,List.length_append]; omega)) (aj (((C _ _ (rt (br ?_))))))))
 exact tr (f1 rfl rfl (⟨by unfold gS; rw [if_neg (show ¬(bytesOf f).length=256 by omega),if_neg V,if_pos ah]; rfl,Md.trans I (Md.trans hE31 (Md.trans aN aO))⟩))
 refine aE (bn (tn (aF _ _ ?_)))
 refine cQ (fun aB wC=> ∃ (E:Option Addr) (s G:Nat),(((bytesOf f).filter (fun b=>decide (b≠94))++(if 94∈(bytesOf f) then [94] else [])).length=s)∧(World.ownsRow wC w1.heap.size 5 1 (.slice E s G) s (U8 ((bytesOf f).filter (fun b=>decide (b≠94))++(if 94∈(bytesOf f) then [94] else []))))∧(Wk w wC)∧(s≤300)∧(aB 3= .slice E s G)) ?_ ?_
 refine ae (fun _ C=>(ag (.slice q (bytesOf f).length a) (e (cl yH (CT (bytesOf f) q _ a 94 _ (hC6.wk hE31) rfl (by omega)) rfl fun bk w39 aX=> ?_))))
 obtain ⟨rfl,hE39⟩:=aX
 have am:Wk w w39:=Md.trans I (Md.trans hE31 hE39)
 refine aj (((C _ _ (ae (fun _ aI=>(p mv (p (ge rfl rfl) (nl ?_))))))))
 refine tn (aI _ _ (cd rfl (fun aZ=> ?_) (fun aZ=> ?_)))
 have hix:=lF (c:=94) (l:=bytesOf f) (by omega)
 have ho39:=aJ (aJ U hE31) hE39
 obtain ⟨gg,rfl⟩:=EA ho39 (by omega)
 refine rg rfl (ag (.slice (some ⟨gg,0,none⟩) (bytesOf f).length a) (p mv (p mv (p (ad rfl rfl (bC (by omega))) (e (cl yI (AO (bytesOf f) ((bytesOf f).idxOf 94) ((bytesOf f).idxOf 94 +1) _ _ w1.heap.size _ a gg _ ho39 (by omega) (by omega) (by omega) (by omega)) rfl fun bl w46 aY=> ?_))))))
 obtain ⟨rfl,ai,hM46⟩:=aY
 have hE46:Wk w w46:=Md.trans' am hM46 (fun k hk h=>by have :=c4 ho39 (show (Value.slice (some ⟨gg,0,none⟩) _ a).ownBlock=some gg from rfl); have :=J.md.size; omega)
 have hlx:=rh ai
 refine e (gq iL rfl rfl fun a9 w47 bb M aM=>e (ap iL (aJ ai M.md) rfl (by have :=J.md.size; have :=aa.size; have :=hE31.size; have :=hE39.size; have :=hM46.size; have :=M.md.size; omega) rfl (ao.dz aM) (rfl) (rfl) (by omega) (by omega) fun bm w48 ak aR bg bf=> ?_))
 have hE48:=Wk.own (Md.trans hE46 M.md) (aJ ai M.md) aR J.md.size
 rw [CR (yl f) hix.2] at hlx ak
 obtain ⟨al,c2,rfl⟩:=cH ak
 have ax:World.ownsRow w48 w1.heap.size 5 1 (.slice al (((bytesOf f).idxOf 94 +((bytesOf f).length - ((bytesOf f).idxOf 94 +1)))+1) c2) (((bytesOf f).idxOf 94 +((bytesOf f).length - ((bytesOf f).idxOf 94 +1)))+1) (U8 ((bytesOf f).filter (fun b=>decide (b≠94))++ [94])):=by rw [na]; exact ak
 exact aj (((⟨al,_,c2,((by have :=rh ax; rw [if_pos (List.idxOf_lt_length_iff.1 hix.2)]; exact this)),((by rw [if_pos (List.idxOf_lt_length_iff.1 hix.2)]; exact ax)),hE48,((by omega)),rfl⟩)))
 have O:¬(94:UInt8)∈bytesOf f:=fun h=>by have h1:cO 94 (bytesOf f)=(bytesOf f).idxOf 94:=if_pos (List.idxOf_lt_length_iff.2 h); omega
 exact aE (tn (⟨q,(bytesOf f).length,a,((by rw [if_neg O,uW O,List.append_nil])),((by rw [if_neg O,uW O,List.append_nil]; exact aJ (aJ U hE31) hE39)),am,((by omega)),rfl⟩))
 rintro aB wC ⟨E,s,G,ar,a3,aP,a2,a7⟩
 refine fx 3 a7 ?_
 have hF3:((bytesOf f).filter (fun b=>decide (b≠94))++(if 94∈(bytesOf f) then [94] else [])).length≤300:=by rw [ar]; exact a2
 refine ae (fun _ C=>(ag (.slice E s G) (p (lj la rfl ((aG a3).2) (ar)) (p (cc rfl rfl (Nat.le_trans (Nat.add_le_add_left hF3 _) (by decide))) (p (cc rfl rfl (by rw [List.length_append]; exact Nat.le_trans (Nat.add_le_add_right (Nat.add_le_add_left hF3 _) _) (by decide))) (p au (nl ?_)))))))
 exact tn (C _ _ (rt (f1 rfl rfl (⟨by unfold gS; rw [if_neg (show ¬(bytesOf f).length=256 by omega),if_neg V,if_neg (show ¬f 93=true from by rw [ah]; exact Bool.noConfusion)]; rfl,aP⟩))))
theorem Ak (s:List UInt8) (w:World) (hs:s.length≤1048576):
 aT Tryz.prog 120 (List.toArray [str s]) w (fun v w'=>(∃ a,v= .tuple #[.agg [a].toArray,U ((dH s).2)]∧World.ownsRow w' w.heap.size 227 4 (a) ((dH s).1).length (gH ((dH s).1)))∧Wk w w'):=by
 refine enter Tryz.func120 rfl Tryz.ntmps120 rfl ?_
 refine ae (fun _ a7=>(e (fZ rr fun am co hb2 M hB2=>aj (((a7 _ _ (sq (fun _ bg=>sq (fun _ aX=> ?_)))))))))
 refine rg rfl (ag (str s) (p (fp rfl rfl) (p mv (gs (t:=10) rfl (fun hg10=> ?_) (fun hg10=> ?_)))))
 refine sk rfl rfl rfl rfl (sk rfl rfl rfl rfl (sk rfl rfl rfl rfl (p (bz rfl) (ak ((aX _ _ (ct rfl (sq (fun _ Y=> ?_)))))))))
 refine rg rfl (p (cz (ps:= []) (L:= [.slice none 0 0]) mV rfl (rfl)) (e (gn kJ rfl (vs:= [.slice none 0 0]) rfl rfl rfl hB2 (by decide) fun w9 hM9 c=> ?_)))
 have q:Wk w w9:=Md.trans' M.md hM9 (fun k hk h=>by omega)
 exact aj (((Y _ _ (rt (tr (et rfl (dd (cs:= [.slice none 0 0]) rfl j4 rfl (fun j A=>(by cases j with | zero=>exact (aU c).trans rfl | succ j=>omega))) dJ (⟨⟨.slice none 0 0,by unfold dH; rw [if_pos (.inl hg10)]; rfl,by unfold dH; rw [if_pos (.inl hg10)]; exact World.ownsRow_nil _ _ _ _⟩,q⟩)))))))
 refine pg rfl rfl rfl (az (str s) rfl) (pg rfl rfl rfl (bY u9 rfl rfl) (pg rfl rfl rfl (gt rfl rfl) (p (bc rfl) (ak ((aX _ _ (cd rfl (fun bO=> ?_) (fun bO=> ?_))))))))
 refine ae (fun _ Y=>(p (cz (ps:= []) (L:= [.slice none 0 0]) mV rfl (rfl)) (e (gn kJ rfl (vs:= [.slice none 0 0]) rfl rfl rfl hB2 (by decide) fun w9 hM9 c=> ?_))))
 have q:Wk w w9:=Md.trans' M.md hM9 (fun k hk h=>by omega)
 exact aj (((Y _ _ (rt (tr (et rfl (dd (cs:= [.slice none 0 0]) rfl j4 rfl (fun j A=>(by cases j with | zero=>exact (aU c).trans rfl | succ j=>omega))) dJ (⟨⟨.slice none 0 0,by unfold dH; rw [if_pos (.inr (by omega))]; rfl,by unfold dH; rw [if_pos (.inr (by omega))]; exact World.ownsRow_nil _ _ _ _⟩,q⟩)))))))
 refine aE (tn (bg _ _ (sq (fun _ Y=>ae (fun _ bh=>(ag (str s) (p (fp rfl rfl) (nl ?_))))))))
 refine tn (bh _ _ (cd rfl (fun O=> ?_) (fun O=> ?_)))
 refine ae (fun _ aL=>(p (cz (ps:= []) (L:= [.slice none 0 0]) mV rfl (rfl)) (e (gn kJ rfl (vs:= [.slice none 0 0]) rfl rfl rfl hB2 (by decide) fun w9 hM9 c=> ?_))))
 have q:Wk w w9:=Md.trans' M.md hM9 (fun k hk h=>by omega)
 refine aj (((aL _ _ (rt (tr (et rfl (dd (cs:= [.slice none 0 0]) rfl j4 rfl (fun j A=>(by cases j with | zero=>exact (aU c).trans rfl | succ j=>omega))) dJ ?_))))))
 have a4:¬(s= []∨512 < s.length):=fun h=>h.elim hg10 (fun h=>by omega)
 exact ⟨⟨.slice none 0 0,by unfold dH; rw [if_neg a4,if_pos O]; rfl,by unfold dH; rw [if_neg a4,if_pos O]; exact World.ownsRow_nil _ _ _ _⟩,q⟩
 refine aE (tn (Y _ _ (ae (fun _ aL=>(e (fZ rr fun Z w4 b9 a3 bv=> ?_))))))
 have hE4:Wk w w4:=Md.trans M.md a3.md
 have hb2l:=(Array.getElem?_eq_some_iff.1 hB2).1
 have hB2x:=a3.md.aw hB2
 have hs:=hs
 refine ak ((aL _ _ (sq (fun _ bi=>ae (fun _ bj=>(aj (((bj _ _ ?_)))))))))
 refine aw (lp (fun aY ai wI=> ∃ (i:Nat) (dn:List (List UInt8)) (ah:Value),(i≤s.length∧dn.length≤i)∧(fW s i dn)∧(wI.heap[Z]? =some (.cells [ah].toArray 213 (0,0)))∧(wI.heap[am]? =some (.cells [.slice none 0 0].toArray 213 (0,0)))∧(World.ownsRow wI w.heap.size 227 4 (ah) (dn).length (gH (dn)))∧(Wk w wI)∧(ai 0=str s)∧(ai 2=aW am)∧(ai 4=aW Z)∧(ai 5=U i)∧(s.length - i=aY)) _ ⟨0,[],.slice none 0 0,((by simp)),(fW.start s),bv,hB2x,(World.ownsRow_nil _ _ _ _),hE4,rfl,rfl,rfl,(by first | rfl | exact iv (if_neg ad)),rfl⟩ ?_)
 rintro aY ai wI ⟨i,dn,ah,hi,aF,aq,ab,G,I,bU,bV,bW,bX,rfl⟩
 refine fx 0 bU (fx 2 bV (fx 4 bW (fx 5 bX (sq (fun _ bk=>ae (fun _ a8=>(ag (U i) (ag (str s) (p (bY u9 rfl rfl) (p (lt rfl rfl) ?_))))))))))
 refine ak ((a8 _ _ (cd rfl (fun bP=> ?_) (fun bP=> ?_))))
 refine aE (tn (bk _ _ (aw (ae (fun _ aG=>(e (al kZ fun aa w6 hb6 aC hB6=> ?_)))))))
 have an:ba w6.heap aa (b0 (fun _=>false)):=by rw [pH]; exact hB6
 have aP:Wk w w6:=Md.trans I aC.md
 have hBp6:=aC.md.aw aq
 have hBz6:=aC.md.aw ab
 have hol6:=aJ G aC.md
 have hb6:aa=wI.heap.size:=hb6
 have hI4:=(Array.getElem?_eq_some_iff.1 aq).1
 have hI2:=(Array.getElem?_eq_some_iff.1 ab).1
 have hdi:=drop_cons (l:=s) (i:=i) 0 (by omega)
 refine ak ((aG _ _ (ae (fun _ aH=>(aj (((aH _ _ ?_))))))))
 refine cQ (fun V wC=>(s.getD i 0≠91)∧(ba wC.heap aa (b0 (ek [s.getD i 0])))∧(wC.heap[Z]? =some (.cells [ah].toArray 213 (0,0)))∧(wC.heap[am]? =some (.cells [.slice none 0 0].toArray 213 (0,0)))∧(World.ownsRow wC w.heap.size 227 4 (ah) (dn).length (gH (dn)))∧(Wk w wC)∧(V 0=str s)∧(V 2=aW am)∧(V 4=aW Z)∧(V 5=U i)∧(V 6=aW aa)) ?_ ?_
 refine ae (fun _ C=>(ag (str s) (ag (U i) (p (fF u9 rfl rfl (by omega)) (ak ((C _ _ (aw ?_))))))))
 refine ae (fun _ a9=>(p (bu rfl rfl) (aj (((a9 _ _ (cd rfl (fun aD=> ?_) (fun aD=> ?_))))))))
 refine sq (fun _ aI=>ae (fun _ bb=>(ag (str s) (ag (U i) (p (bd ((i+1:Nat):Int) rfl rfl (aO (by omega) (by omega))) (e (cl yB (yb s (i+1) _ hs (by omega)) rfl fun cm w36 bM=> ?_)))))))
 obtain ⟨⟨bo,rfl,bR⟩,hE36⟩:=bM
 have bI:Wk w w36:=Md.trans aP hE36
 have hb91:=uy aD
 refine p mv (p (xt rfl rfl) (p (xt rfl rfl) (p (xt rfl rfl) (e (bJ jJ rfl (vs:=b0 bo) rfl rfl rfl (hE36.B an) (by decide) fun w13 ar aZ=> ?_)))))
 have a1:Wk w w13:=Md.trans' bI ar (fun k hk h=>by have :=I.size; omega)
 have hs36:=hE36.size
 have hBp13:=ar.aw (hE36.aw hBp6) (fun h=>by omega)
 have hBz13:=ar.aw (hE36.aw hBz6) (fun h=>by omega)
 have hol13:=bF (aJ hol6 hE36) ar (fun k hk h=>by have :=c4 G hk; omega)
 have ce:(s.drop (i+1)).length=s.length - (i+1):=List.length_drop
 refine p au (aj (((bb _ _ (ae (fun _ bf=>(p mv (p (no rfl) ?_))))))))
 refine ak ((bf _ _ (cb rfl (fun E=> ?_) (fun E=> ?_))))
 have ac:fK (s.drop i)=none:=by
  rw [hdi,hb91]
  refine zD rfl (fun h=> ?_)
  have b5:¬cO 93 (s.drop (i+1)) < 0:=by rw [show cO 93 (s.drop (i+1))=(s.drop (i+1)).idxOf 93 from if_pos h.1]; omega
  have hy:=(rZ (s:=s) (k:=i+1) h.1).2 h.2
  rw [decide_eq_false b5,decide_eq_true hy] at E; cases E
 have hcr:=aF.bad (by omega) ac
 refine ae (fun _ aK=>(p (cz (ps:= []) (L:= [.slice none 0 0]) mV rfl (rfl)) (e (gn kJ rfl (vs:= [.slice none 0 0]) rfl rfl rfl hBz13 (by decide) fun w9 hM9 c=> ?_))))
 have q:Wk w w9:=Md.trans' a1 hM9 (fun k hk h=>by omega)
 refine aj (((aK _ _ (rt (tr (br (tr (br ?_))))))))
 refine tr (br (tr (et rfl (dd (cs:= [.slice none 0 0]) rfl j4 rfl (fun j A=>(by cases j with | zero=>exact (aU c).trans rfl | succ j=>omega))) dJ ?_)))
 have hz:dH s=([],41):=by unfold dH; rw [if_neg (fun h=>h.elim hg10 (fun h=>by omega)),if_neg O,hcr]
 exact ⟨⟨.slice none 0 0,by rw [hz]; rfl,by rw [hz]; exact World.ownsRow_nil _ _ _ _⟩,q⟩
 have ad:¬cO 93 (s.drop (i+1)) < 0:=fun h=>by rw [decide_eq_true h] at E; cases E
 have b6:dR (eD s (i+1)) [94]≠[]:=fun h=>by rw [h] at E; simp at E
 have hix:=lF ad
 have hyk:=(rZ (s:=s) (k:=i+1) hix.2).1 b6
 obtain rfl :=bR ad
 rw [yf hix.2 hyk.1] at aZ
 have ac:fK (s.drop i)=some (91::(s.drop (i+1)).take ((s.drop (i+1)).idxOf 93 +1),(s.drop (i+1)).drop ((s.drop (i+1)).idxOf 93 +1)):=by rw [hdi,hb91]; exact zH rfl hix.2 hyk.1 hyk.2
 have hgo2:=aF.step (j:=i+1 +(s.drop (i+1)).idxOf 93 +1) ac (by rw [List.drop_drop]; rfl)
 have ch:(s.drop (i+1)).idxOf 93 < s.length - (i+1):=by have :=hix.2; omega
 refine aE (tn (aI _ _ (ae (fun _ aK=>(p (fa kO rfl) (p (ld l9 rfl ((aU hBp13).trans rfl)) (p (cR fP rfl (rfl) (fun j A=>by rw [Nat.zero_add]; exact (aZ).aA j)) (e (kG oz rfl rfl rfl fun bl w46 ca ay bw=> ?_)))))))))
 have bx:ba w46.heap bl (b0 (ek (91::(s.drop (i+1)).take ((s.drop (i+1)).idxOf 93 +1)))):=bw
 have hE46:Wk w w46:=Md.trans a1 ay.md
 have hol46:=aJ hol13 ay.md
 have hBp46:=ay.md.aw hBp13
 have hBz46:=ay.md.aw hBz13
 refine e (ap oz (hol46) rfl (by have :=hE46.size; omega) rfl (ao.dz bx) (rfl) (sQ _) (by omega) (by omega) fun b7 w47 a5 aR ci cf=> ?_)
 have ho47x:=vq a5
 have hBp47:=aR.aw hBp46 (fun h=>cG hol46 hBp46 (by decide) h)
 have hBz47:=aR.aw hBz46 (fun h=>cG hol46 hBz46 (by decide) h)
 have hE47:=Wk.own hE46 hol46 aR (Nat.le_refl _)
 refine p (fa kO rfl) (e (da sU rfl rfl (dG a5) hBp47 (by simp) fun w16 hM16 bq=> ?_))
 have bE:Wk w w16:=Md.trans' hE47 hM16 (fun k hk h=>by have :=M.md.size; omega)
 exact ak ((aK _ _ (ext (iV (by decide) (te _ (be (tn (⟨_,by omega,i+1 +(s.drop (i+1)).idxOf 93 +1,dn++ [91::(s.drop (i+1)).take ((s.drop (i+1)).idxOf 93 +1)],b7,((by rw [List.length_append,List.length_singleton]; omega)),hgo2,bq,(hM16.aw hBz47 (fun h=>by omega)),(bF ho47x hM16 (fun k hk h=>cG ho47x hBp47 (by decide) (h ▸ hk))),bE,rfl,rfl,rfl,(by first | rfl | exact iv (if_neg ad)),rfl⟩))))))))
 refine ae (fun _ aI=>(p (bu rfl rfl) (aj (((aI _ _ (cd rfl (fun aV=> ?_) (fun aV=> ?_))))))))
 refine rg rfl (p (cR fP rfl (rfl) (fun j A=>by rw [Nat.zero_add]; exact (an).aA j)) (e (cl ph (qN (fun _=>false) _) rfl fun cn cp bN=> ?_)))
 obtain ⟨rfl,J⟩:=bN
 refine e (bJ jJ rfl (vs:=b0 (fun x=> !(fun _:UInt8=>false) x)) rfl rfl rfl (J.B an) (by decide) fun w18 av hB18=> ?_)
 have hs52:=J.size
 have bG:Wk w w18:=Md.trans' (Md.trans aP J) av (fun k hk h=>by have :=I.size; omega)
 have hBp18:=av.aw (J.aw hBp6) (fun h=>by omega)
 have hBz18:=av.aw (J.aw hBz6) (fun h=>by omega)
 have hol18:=bF (aJ hol6 J) av (fun k hk h=>by have :=c4 G hk; omega)
 exact nl (bn (tn (⟨(qH aD),((by rw [ux aV,← A3]; exact hB18)),hBp18,hBz18,hol18,bG,rfl,rfl,rfl,rfl,rfl⟩)))
 refine rg rfl (ag (str s) (ag (U i) (p (fF u9 rfl rfl (by omega)) (e (cl si (vB aa (s.getD i 0) _ _ an) rfl fun ck w29 bL=> ?_)))))
 obtain ⟨rfl,bt,ax⟩:=bL
 have hE29:Wk w w29:=Md.trans' aP ax (fun k hk h=>by have :=I.size; omega)
 have hBp29:=ax.aw hBp6 (fun h=>by omega)
 have hBz29:=ax.aw hBz6 (fun h=>by omega)
 have hol29:=bF hol6 ax (fun k hk h=>by have :=c4 G hk; omega)
 exact nl (bn (tn (⟨(qH aD),((by rw [← Es (ve aV)]; exact bt)),hBp29,hBz29,hol29,hE29,rfl,rfl,rfl,rfl,rfl⟩)))
 rintro V wC ⟨bS,bC,a0,bD,bT,bK,bZ,b1,b2,b3,b4⟩
 refine fx 0 bZ (fx 2 b1 (fx 4 b2 (fx 5 b3 (fx 6 b4 (ae (fun _ C=>(p (fa kO rfl) (p (ld l9 rfl ((aU a0).trans rfl)) (p (cR fP rfl (rfl) (fun j A=>by rw [Nat.zero_add]; exact (bC).aA j)) (e (kG oz rfl rfl rfl fun bm w56 cc aB bA=> ?_)))))))))))
 have bB:ba w56.heap bm (b0 (ek [s.getD i 0])):=bA
 have a2:Wk w w56:=Md.trans bK aB.md
 have hol56:=aJ bT aB.md
 have hBp56:=aB.md.aw a0
 have hBz56:=aB.md.aw bD
 refine e (ap oz (hol56) rfl (by have :=a2.size; omega) rfl (ao.dz bB) (rfl) (sQ _) (by omega) (by omega) fun b8 cq a6 aS cj cg=> ?_)
 have ho57x:=vq a6
 have hBp57:=aS.aw hBp56 (fun h=>cG hol56 hBp56 (by decide) h)
 have hBz57:=aS.aw hBz56 (fun h=>cG hol56 hBz56 (by decide) h)
 have hE57:=Wk.own a2 hol56 aS (Nat.le_refl _)
 have ac:fK (s.drop i)=some ([s.getD i 0],s.drop (i+1)):=by rw [hdi]; exact zE bS
 have hgo2:=aF.step (j:=i+1) ac rfl
 refine p (fa kO rfl) (e (da sU rfl rfl (dG a6) hBp57 (by simp) fun w19 aQ bs=> ?_))
 have bH:Wk w w19:=Md.trans' hE57 aQ (fun k hk h=>by have :=M.md.size; omega)
 refine ak ((C _ _ (rg rfl (ag (U i) (p (bd ((i+1:Nat):Int) rfl rfl (aO (by omega) (by omega))) (p au (nl (bn ?_))))))))
 exact tn (⟨_,by omega,i+1,dn++ [[s.getD i 0]],b8,((by rw [List.length_append,List.length_singleton]; omega)),hgo2,bs,(aQ.aw hBz57 (fun h=>by omega)),(bF ho57x aQ (fun k hk h=>cG ho57x hBp57 (by decide) (h ▸ hk))),bH,rfl,rfl,rfl,(by first | rfl | exact iv (if_neg ad)),rfl⟩)
 refine ext (te _ (te _ (be (tn (bi _ _ (sq (fun _ aG=>sq (fun _ aH=> ?_))))))))
 obtain ⟨aM,aN,rfl⟩:=cH G
 have hcr:=aF.done (by omega)
 refine rg rfl (p (fa kO rfl) (p (ld l9 rfl ((aU aq).trans rfl)) (p (bp rf rfl rfl) (p (gt rfl rfl) (ak ((aH _ _ (cd rfl (fun bQ=> ?_) (fun bQ=> ?_)))))))))
 refine ae (fun _ C=>(p (cz (ps:= []) (L:= [.slice none 0 0]) mV rfl (rfl)) (e (gn kJ rfl (vs:= [.slice none 0 0]) rfl rfl rfl ab (by decide) fun w9 hM9 c=> ?_))))
 have q:Wk w w9:=Md.trans' I hM9 (fun k hk h=>by omega)
 refine aj (((C _ _ (rt (tr (et rfl (dd (cs:= [.slice none 0 0]) rfl j4 rfl (fun j A=>(by cases j with | zero=>exact (aU c).trans rfl | succ j=>omega))) dJ ?_))))))
 have hz:dH s=([],42):=by unfold dH; rw [if_neg (fun h=>h.elim hg10 (fun h=>by omega)),if_neg O,hcr]; exact if_pos (by omega)
 exact ⟨⟨.slice none 0 0,by rw [hz]; rfl,by rw [hz]; exact World.ownsRow_nil _ _ _ _⟩,q⟩
 refine aE (tn (aG _ _ (ae (fun _ C=>(p (cR j4 rfl (rfl) (show ∀ j,j < 1→Hb.aA wI.heap Z (0 +j)= [Value.slice aM dn.length aN][j]? from fun j A=>(by cases j with | zero=>exact (aU aq).trans rfl | succ j=>omega))) (e (gn kJ rfl (vs:= [.slice aM dn.length aN]) rfl rfl rfl ab (by decide) fun w9 hM9 c=> ?_)))))))
 have q:Wk w w9:=Md.trans' I hM9 (fun k hk h=>by omega)
 have hol9:=bF G hM9 (fun k hk h=>cG G ab (by decide) (h ▸ hk))
 refine aj (((C _ _ (rt (et rfl (dd (cs:= [.slice aM dn.length aN]) rfl j4 rfl (fun j A=>(by cases j with | zero=>exact (aU c).trans rfl | succ j=>omega))) dJ ?_)))))
 have hz:dH s=(dn,0):=by unfold dH; rw [if_neg (fun h=>h.elim hg10 (fun h=>by omega)),if_neg O,hcr]; exact if_neg (by omega)
 exact ⟨⟨_,by rw [hz]; rfl,by rw [hz]; exact hol9⟩,q⟩
theorem EX (ps:List (List UInt8)) (a:Option Addr) (c:Nat) (w:World) (hC:ao w.heap a (gH ps)) (hn:ps.length≤4096):
 aT Tryz.prog 121 (List.toArray [.agg [.slice a ps.length c].toArray]) w (fun v w'=>v=str (lO ps)∧Wk w w'):=by
 refine enter Tryz.func121 rfl Tryz.ntmps121 rfl ?_
 refine ae (fun _ J=>(e (iw rfl fun az w1 aC A hB1=>aj (((J _ _ (sq (fun _ O=>sq (fun _ V=> ?_)))))))))
 refine rg rfl (p (fa kO rfl) (p (ld l9 rfl (hB1.aA 0)) (p (bp rf rfl rfl) (p (bu rfl rfl) (ak ((V _ _ (cd rfl (fun G=> ?_) (fun G=> ?_)))))))))
 refine ae (fun _ C=>(aj (((C _ _ (rt (tr (f1 rfl rfl ?_))))))))
 exact ⟨by unfold lO; rw [if_pos (List.eq_nil_of_length_eq_zero (by omega))]; rfl,A.md⟩
 refine aE (tn (O _ _ (ae (fun _ C=>(aj (((C _ _ (sq (fun _ Y=> ?_))))))))))
 refine ae (fun _ Z=>(p (fa kO rfl) (p (ld l9 rfl (hB1.aA 0)) (p (bp rf rfl rfl) (p mv (ak ((Z _ _ ?_))))))))
 refine aw (lp (fun I s wI=> ∃ (i:Nat),(i≤ps.length)∧(Wk w1 wI)∧(((ps.take i).flatMap fun t=>gS (ek t)).length≤i*300)∧(s 3=str ((ps.take i).flatMap fun t=>gS (ek t)))∧(s 11= .slice a ps.length c)∧(s 12=U (ps.length))∧(s 13=U i)∧(ps.length - i=I)) _ ⟨0,(by omega),(Md.refl _ _),((by simp)),(by first | rfl | (rw [im ps i [] (by omega),List.flatMap_append,List.flatMap_singleton]; rfl)),rfl,rfl,rfl,rfl⟩ ?_)
 rintro I s wI ⟨i,hi,q,hlen,ay,ar,av,ax,rfl⟩
 refine fx 3 ay (fx 11 ar (fx 12 av (fx 13 ax (ae (fun _ aa=>(p (lt rfl rfl) (ak ((aa _ _ (sq (fun _ ab=>cd rfl (fun aq=> ?_) (fun aq=> ?_))))))))))))
 refine aE (tn (ab _ _ (sq (fun _ E=>aw (ae (fun _ M=>(p (aK By rfl rfl (by omega) (ao.ok (hC.wk (Md.trans A.md q)) (z1 (by omega)))) (p (cR fP rfl (rfl) (show ∀ j,j < 4→Hb.aA wI.heap (bk a) (fo a+i*4 +j)=(b0 (ek (ps.getD i [])))[j]? from z0 (hC.wk (Md.trans A.md q)) (by omega))) ?_))))))))
 refine e (al kZ fun aB w5 hb5 an ac=>e (bJ jJ rfl (vs:=b0 (ek (ps.getD i []))) rfl rfl rfl ac (by decide) fun w6 am hB6=> ?_))
 have ai:Wk w1 w6:=Md.trans' (Md.trans q an.md) am (fun k hk h=>by have :=q.size; omega)
 refine ak ((M _ _ (rg rfl (ag (str ((ps.take i).flatMap fun t=>gS (ek t))) (p (cR fP rfl (rfl) (fun j aD=>by rw [Nat.zero_add]; exact (hB6).aA j)) (e (cl yC (FW (ek (ps.getD i [])) _) rfl fun aF w19 ap=> ?_)))))))
 obtain ⟨rfl,ah⟩:=ap
 have hsl:=FV (ek (ps.getD i []))
 refine p (cc rfl rfl (by omega)) (p au (nl (bn (tn (E _ _ (rg rfl (p (ad rfl rfl (bC (by omega))) (p mv ?_))))))))
 exact ak ((⟨_,by omega,i+1,(by omega),(Md.trans ai ah),((by rw [im ps i [] (by omega),List.flatMap_append,List.flatMap_singleton,List.length_append]; omega)),(by first | rfl | (rw [im ps i [] (by omega),List.flatMap_append,List.flatMap_singleton]; rfl)),rfl,rfl,rfl,rfl⟩))
 refine ext (te _ (te _ (be (tn (Y _ _ (ae (fun _ E=>(ag (str ((ps.take i).flatMap fun t=>gS (ek t))) ?_))))))))
 exact p (bD (str ((ps.take i).flatMap fun t=>gS (ek t))) rfl) (ak ((E _ _ (rt (f1 rfl rfl (⟨by unfold lO; rw [if_neg (fun h=>by rw [h] at G; exact G rfl),show ps.take i=ps from List.take_of_length_le (by omega)]; rfl,Md.trans A.md q⟩))))))
end Go.Hb.l3
end
section
set_option maxRecDepth 20000
set_option maxHeartbeats 1000000
namespace Go.Hb.fz
open Go.Hb.cU
open Go.Proofs
open Go.Hb.eK Go.Hb.fg Go.Hb.jt Go.Hb.jy Go.Hb.gZ Go.Hb.kt Go.Hb.fJ Go.Hb.k3 Go.Hb.l3 Go.Hb.fY Go.Hb.fX
theorem tH {kind:Nat} {al:List (List Nat)} {s:Tx} (h:al= []):dV kind al s=h8 kind s:=if_pos h
theorem BW {kind:Nat} {al:List (List Nat)} {s:Tx} {e:Nat} (h:al≠[]) (h1:cJ s al.length= .error e):dV kind al s= .error 13:=by unfold dV; rw [if_neg h,h1]
theorem BZ {kind:Nat} {al:List (List Nat)} {s:Tx} (h:al≠[]) (h1:cJ s al.length= .ok 0):dV kind al s= .error 13:=by unfold dV; rw [if_neg h,h1]; rfl
theorem BX {kind n:Nat} {al:List (List Nat)} {s:Tx} (h:al≠[]) (h1:cJ s al.length= .ok n) (hz:n≠0):dV kind al s= .ok (al.getD (n - 1) []):=by unfold dV; rw [if_neg h,h1]; exact if_neg hz
theorem tW {kind:Nat} {s:Tx} (h:(dx kind s).2=0):h8 kind s= .ok (dx kind s).1:=if_neg fun h2=>h2 h
theorem tU {kind:Nat} {s:Tx} (h:(dx kind s).2≠0):h8 kind s= .error (dx kind s).2:=if_pos h
theorem vN {kind ln:Nat} {al:List (List Nat)} {c:c7} {r:List Tx} (h:r.length≠4) (h1:r.length≠5):gQ kind al c ln r= .error 111:=by unfold gQ; rw [if_pos ⟨h,h1⟩]
theorem kh {kind ln:Nat} {al:List (List Nat)} {c:c7} {r:List Tx} (h:r.length=4∨r.length=5):gQ kind al c ln r=(match dY true (r.getD 2 []) with
 | .error e=> .error e
 | .ok st=>match iT (aY (r.getD 3 [])) with
   | .error e=> .error e
   | .ok ad=>match jh kind al c.kind (aY (r.getD 3 [])) with
     | .error e=> .error e
     | .ok nx=>match iX r with
       | .error e=> .error e
       | .ok cd=> .ok ⟨c.kind,c.flag,c.gI,st,ad,cd,nx,ln⟩):=by unfold gQ; rw [if_neg (by omega)]; rfl
theorem xB {r:g3} (h:r.2.2.2≠0):iT r= .error r.2.2.2:=if_pos h
theorem xE {r:g3} (h:r.2.2.2=0) (h1:r.1= [48]):iT r= .ok []:=by unfold iT; rw [if_neg (fun h2=>h2 h),if_pos h1]
theorem xC {r:g3} (h:r.2.2.2=0) (h1:r.1≠[48]) (h2:eV r.1≠0):iT r= .error (eV r.1):=by unfold iT; rw [if_neg (fun h2=>h2 h),if_neg h1,if_pos h2]
theorem xD {r:g3} (h:r.2.2.2=0) (h1:r.1≠[48]) (h2:eV r.1=0):iT r= .ok r.1:=by unfold iT; rw [if_neg (fun h2=>h2 h),if_neg h1,if_neg (fun h3=>h3 h2)]
theorem D9 {kind a:Nat} {al:List (List Nat)} {r:g3} (h:r.2.2.1=false):jh kind al a r= .ok []:=by unfold jh; rw [if_neg (by rw [h]; exact Bool.noConfusion)]
theorem D8 {kind a:Nat} {al:List (List Nat)} {r:g3} (h:r.2.2.1=true) (h1:a=1):jh kind al a r= .error 118:=by unfold jh; rw [if_pos h,if_pos h1]
theorem uU {kind a:Nat} {al:List (List Nat)} {r:g3} (h:r.2.2.1=true) (h1:a≠1):jh kind al a r=dV kind al r.2.1:=by unfold jh; rw [if_pos h,if_neg h1]
theorem Ae {r:List Tx} (h:r.length≠5):iX r= .ok [46]:=if_neg h
theorem Ab {r:List Tx} (h:r.length=5) (h1:ep (r.getD 4 [])=false):iX r= .error 21:=by unfold iX; rw [if_pos h,if_pos h1]
theorem Ac {r:List Tx} (h:r.length=5) (h1:ep (r.getD 4 [])=true) (h2:(dH (r.getD 4 [])).2≠0):iX r= .error (dH (r.getD 4 [])).2:=by unfold iX; rw [if_pos h,if_neg (by rw [h1]; exact Bool.noConfusion),if_pos h2]
theorem Ad {r:List Tx} (h:r.length=5) (h1:ep (r.getD 4 [])=true) (h2:(dH (r.getD 4 [])).2=0):iX r= .ok (lO (dH (r.getD 4 [])).1):=by unfold iX; rw [if_pos h,if_neg (by rw [h1]; exact Bool.noConfusion),if_neg (fun h3=>h3 h2)]
theorem Aj (s:Tx):(dH s).1.length≤16:=by
 unfold dH
 split
 · simp
 · split
   · simp
   · split
     · simp
     · split
       · simp
       · rename_i h; exact Nat.le_of_not_lt h
theorem tz (B fb mc:Nat) (F:aH) (V:db) (s:Tx) (w:World) (q:bH w B fb mc F V) (hk:F.kind=1∨F.kind=2∨F.kind=3) (hal:∀ l∈F.aliases,l.length≤64∧l.Pairwise (· < ·)) (ax:F.aliases.length≤70000) (hs:s.length≤1048576):
 aT Tryz.prog 75 (List.toArray [aW fb,str s]) w (fun v w'=>((∃ a l,v= .tuple #[a,.int .i64 0]∧dV F.kind F.aliases s= .ok l∧World.ownsRow w' w.heap.size 71 1 a l.length (l.map aB))∨(∃ a e,v= .tuple #[a,U e]∧e≠0∧dV F.kind F.aliases s= .error e))∧Wk w w'):=by
 obtain ⟨ai,fi,Y⟩:=cH q.eT
 have ho10:=q.eT
 rw [Y] at ho10
 have hc10:Hb.aA w.heap fb 10=some (.slice ai F.aliases.length fi):=by rw [← Y]; exact (aU q.cells).trans rfl
 refine enter Tryz.func75 rfl Tryz.ntmps75 rfl ?_
 refine ae (fun _ Z=>(p au (aj (((Z _ _ (sq (fun _ aa=>sq (fun _ ab=> ?_)))))))))
 refine rg rfl (ag (aW fb) (p (e8 km rfl rfl) (ak ((ab _ _ (cf (rfl) (aE (tn (aa _ _ ?_)))))))))
 refine sq (fun _ ac=>ae (fun _ ad=>(ag (aW fb) (p (nc rfl) (p (fa dF rfl) (p (fa jM rfl) (p (ld kB rfl (hc10)) ?_)))))))
 refine p (bp oL rfl rfl) (p (bu rfl rfl) (ak ((ad _ _ (cd rfl (fun E=> ?_) (fun E=> ?_))))))
 have i:F.aliases= []:=List.eq_nil_of_length_eq_zero (by omega)
 refine ae (fun _ A=>(ag (aW fb) (p (nc rfl) (p (fa dF rfl) (p (fa lB rfl) (p (ld dN rfl ((aU q.cells).trans rfl)) (ag (str s) ?_)))))))
 refine e (cl r7 (tY F.kind s _ hk hs) rfl fun ay aF an=> ?_)
 obtain ⟨⟨J,rfl,ho23⟩,hE23⟩:=an
 refine p (xt rfl rfl) (p (xt rfl rfl) (p au (aj (((A _ _ (rt (tr ?_))))))))
 refine f2 rfl rfl rfl ?_
 refine ⟨?_,hE23⟩
 by_cases h:(dx F.kind s).2=0
 exact .inl ⟨J,_,by rw [h]; rfl,by rw [tH i]; exact tW h,ho23⟩
 exact .inr ⟨J,_,rfl,h,by rw [tH i]; exact tU h⟩
 have i:F.aliases≠[]:=fun h=>by rw [h] at E; exact E rfl
 refine aE (tn (ac _ _ (ae (fun _ A=>(ag (str s) (ag (aW fb) (p (nc rfl) (p (fa dF rfl) ?_))))))))
 refine p (fa jM rfl) (p (ld kB rfl (hc10)) (p (bp oL rfl rfl) (e (cl nz (og s (F.aliases.length:Nat) _ hs (by omega)) rfl fun az aI ap=> ?_))))
 obtain ⟨rfl,c⟩:=ap
 refine p mv (p (xt rfl rfl) (p (xt rfl rfl) (p au (aj (((A _ _ (sq (fun _ ah=> ?_)))))))))
 refine ae (fun _ I=>(p mv (p (dt rfl rfl) (p mv (gs (t:=39) rfl (fun av=> ?_) (fun av=> ?_))))))
 refine sk rfl rfl rfl rfl (sk rfl rfl rfl rfl (p (bz rfl) (ak ((I _ _ (ct rfl (ae (fun _ j=> ?_))))))))
 exact p au (aj (((j _ _ (rt (tr (f2 rfl rfl rfl (⟨.inr ⟨.slice none 0 0,13,rfl,by decide,BW i (od (by omega)).1⟩,c⟩))))))))
 refine pg rfl rfl rfl mv (pg rfl rfl rfl (bu rfl rfl) (p (bc rfl) (ak ((I _ _ (cd rfl (fun ar=> ?_) (fun ar=> ?_)))))))
 refine ae (fun _ j=>(p au (aj (((j _ _ (rt (tr ?_))))))))
 refine f2 rfl rfl rfl ?_
 have hnx:=oe (by omega :(dy s (F.aliases.length:Nat)).2=0)
 rw [show (dy s (F.aliases.length:Nat)).1=0 from by omega] at hnx
 exact ⟨.inr ⟨.slice none 0 0,13,rfl,by decide,BZ i hnx⟩,c⟩
 refine aE (tn (ah _ _ (sq (fun _ j=> ?_))))
 have hnx:=oe (by omega :(dy s (F.aliases.length:Nat)).2=0)
 have hnle:=oc s (F.aliases.length:Nat) (by omega)
 have M:(dy s (F.aliases.length:Nat)).1 - 1 < F.aliases.length:=by omega
 obtain ⟨aC,G,C⟩:=bN.get (q.al.wk c) M
 obtain ⟨aw,y7,rfl⟩:=C.slice
 have hal51:=hal _ (ee (d:= []) M)
 refine rg rfl (ag (aW fb) (p (nc rfl) (p (fa dF rfl) (p (fa jM rfl) (p (ld kB rfl (Wk.aA c hc10)) (p mv (p (bQ (((dy s (F.aliases.length:Nat)).1 - 1:Nat):Int) rfl rfl (aO (by omega) (by omega))) ?_)))))))
 refine p (aK pU rfl rfl (by omega) (ao.ok ((aG (aJ ho10 c)).2) (fun h=>by rw [h] at G; cases G))) (p (ld g4 rfl (ao.gG (aG (aJ ho10 c)).2 G)) (e (cl r9 (vk (F.aliases.getD ((dy s (F.aliases.length:Nat)).1 - 1) []) _ _ _ C.bK.2 (fun h=>Tg.oa C (by simp) h) (by omega)) rfl fun aD aL aq=> ?_)))
 obtain ⟨O,am⟩:=aq
 rw [Eo hal51.2] at O
 exact p au (aj (((j _ _ (rt (f2 rfl rfl rfl (⟨.inl ⟨_,_,rfl,BX i hnx (by omega),gk O c.size⟩,c.trans am⟩)))))))
theorem FI (B:Nat) (H:bj) (F:aH) (V:db) (R:dM) (rows:List Rw) (ln:Nat) (seen:List Tx) (c:c7) (r:List Tx) (bt:Nat) (A:Option Addr) (C:Nat) (w:World) (G:bH w B H.fb H.mc F V) (E:bo w B H F R rows ln seen) (aM:fV F rows seen) (c8:c.kind=1∨c.kind=2) (hT:Tg w bt 9 r.length (.slice A r.length C) (r.map str)) (hrl:r.length≤70000∧∀ x∈r,x.length≤70000):
 cW Tryz.prog 102 (List.toArray [.pointer (some ⟨H.rb,0,none⟩),.agg (jH c).toArray,.slice A r.length C]) w (fun v w'=> ∃ q,gQ F.kind F.aliases c ln r= .ok q∧q.line=ln∧(∃ vn,v= .agg (gl (q,vn)).toArray∧Tg w' B 71 q.next.length vn (q.next.map aB))∧Wk w w') (fun ad w'=> ∃ e,gQ F.kind F.aliases c ln r= .error e∧ad=eG 25 ln (e:Nat)∧Wk w w'):=by
 have hTs:=hT.bK
 have hrb:=(Array.getElem?_eq_some_iff.1 E.cells).1
 have hlo:=E.lo.1
 refine fk Tryz.func102 rfl Tryz.ntmps102 rfl ?_
 refine sq (fun cV bY=>rg rfl (e (iw rfl fun aL w4 c5 bb bR=>e (al rq fun Y w6 hb6 aC hB6=> ?_))))
 have ar:Wk w w6:=bb.md.trans aC.md
 have hln6:=Wk.aA ar E.cE
 have hz4:=bb.size
 have hz6:=aC.size
 refine nl (tn (bY _ _ ?_))
 refine cQ (fun an wC=>(r.length=4∨r.length=5)∧(wC=w6)∧(an 0= .pointer (some ⟨H.rb,0,none⟩))∧(an 2= .slice A r.length C)∧(an 4= .pointer (some ⟨aL,0,none⟩))∧(an 6= .pointer (some ⟨Y,0,none⟩))) ?_ ?_
 refine rg rfl (p (az (.pointer (some ⟨H.rb,0,none⟩)) rfl) (p (az (.slice A r.length C) rfl) (p (bp ea rfl rfl) (p (bu rfl rfl) (p mv (gs (t:=20) rfl (fun cp=> ?_) (fun cp=> ?_)))))))
 refine sk rfl rfl rfl rfl (sk rfl rfl rfl rfl (sk rfl rfl rfl rfl (p (bz rfl) (eP rfl (bE dS (dX H.rb ln _ 111 w6 hln6 (by decide)) rfl fun cP w25 aZ=> ?_) (fun c w' s M G=>by first | exact absurd s.2.1 (by decide) | exact ⟨111,vN (by omega) (by have :=of_decide_eq_false s.2.1; omega),s.1,by rw [s.2.2]; exact ar⟩)))))
 obtain ⟨rfl,bm,rfl⟩:=aZ
 exact nl (tn (⟨(.inl (by omega)),rfl,rfl,rfl,rfl,rfl⟩))
 refine pg rfl rfl rfl (az (.slice A r.length C) rfl) (pg rfl rfl rfl (bp ea rfl rfl) (pg rfl rfl rfl (bu rfl rfl) (p (bc rfl) (eP rfl (bE dS (dX H.rb ln _ 111 w6 hln6 (by decide)) rfl fun cP w25 aZ=> ?_) (fun c w' s M G=>by first | exact absurd s.2.1 (by decide) | exact ⟨111,vN (by omega) (by have :=of_decide_eq_false s.2.1; omega),s.1,by rw [s.2.2]; exact ar⟩)))))
 obtain ⟨rfl,bm,rfl⟩:=aZ
 exact nl (tn (⟨(.inr (by have :=of_decide_eq_true bm; omega)),rfl,rfl,rfl,rfl,rfl⟩))
 rintro an wC ⟨hlen,bX,cq,cr,ct,cu⟩
 refine fx 0 cq (fx 2 cr (fx 4 ct (fx 6 cu ?_)))
 subst bX
 have hq4:=aC.md.B bR
 refine sq (fun cX bZ=>rg rfl (p (fa nW rfl) (p (ld dN rfl ((hq4.aA 1).trans rfl)) (p (fa p7 rfl) (p (ld bg rfl ((hq4.aA 0).trans rfl)) (p (fa tO rfl) (p (ld rH rfl ((hq4.aA 2).trans rfl)) ?_)))))))
 refine p (cz (ps:= [(0,.int .i64 (c.kind:Nat)),(1,aB c.flag),(2,.bool c.gI),(5,str [46])]) (L:= [.int .i64 (c.kind:Nat),aB c.flag,.bool c.gI,.string ⟨⟨[]⟩⟩,.string ⟨⟨[]⟩⟩,str [46],.slice none 0 0]) Gg rfl (rfl)) (e (al rq fun b7 w7 c6 aD bT=> ?_))
 have hz7:=aD.size
 refine e (bJ pJ rfl rfl rfl rfl (bT) (by simp) fun wt2_8 aw bP=> ?_)
 have av:Wk w wt2_8:=(ar.trans aD.md).trans' aw (fun k hk h=>by omega)
 have hb48:=aw.B (aD.md.B hq4) (fun h=>by omega)
 have hb68:=aw.B (aD.md.B hB6) (fun h=>by omega)
 have hz8:=aw.size
 have hT8s:=(hT.wk av).bK
 have c9:(r.getD 2 []).length≤70000:=hrl.2 _ (ee (by omega))
 have da:(r.getD 3 []).length≤70000:=hrl.2 _ (ee (by omega))
 refine nl (tn (bZ _ _ (sq (fun cY b0=>rg rfl (p (az (.pointer (some ⟨H.rb,0,none⟩)) rfl) (p (az (.slice A r.length C) rfl) (p (aK bO rfl rfl (by omega) (ao.ok (hT8s.2) (bL (by omega)))) (p (ld bW rfl (bh.get (i:=2) hT8s.2 (by omega))) ?_))))))))
 refine eP rfl (bE r6 (vv H.rb ln (r.getD 2 []) wt2_8 (Wk.aA av E.cE) (by omega)) rfl fun df w37 b4=> ?_) (fun c w' s M G=>by obtain ⟨e,he,h,h2⟩:=s; exact ⟨e,by rw [kh hlen,he],h,av.trans h2⟩)
 obtain ⟨stx,bI,rfl,ag⟩:=b4
 refine p (fa B8 rfl) (e (st kK rfl rfl (rfl) (ag.B bP) (by simp) fun wt3_6 ax bQ=> ?_))
 have a7:ba wt3_6.heap b7 [.int .i64 (c.kind:Nat),aB c.flag,.bool c.gI,str stx,str [],str [46],.slice none 0 0]:=bQ
 have a8:Wk w wt3_6:=(av.trans ag).trans' ax (fun k hk h=>by omega)
 have hz37:=ag.size
 have hb43:=ax.B (ag.B hb48) (fun h=>by omega)
 have hb63:=ax.B (ag.B hb68) (fun h=>by omega)
 have hT3s:=(hT.wk a8).bK
 have hz3:=ax.size
 refine nl (tn (b0 _ _ (sq (fun cZ b1=>rg rfl (p (az (.slice A r.length C) rfl) (p (aK bO rfl rfl (by omega) (ao.ok (hT3s.2) (bL (by omega)))) (p (ld bW rfl (bh.get (i:=3) hT3s.2 (by omega))) (e (cl pq (rm (r.getD 3 []) _ (by omega)) rfl fun dg w43 b5=> ?_)))))))))
 obtain ⟨rfl,hE43⟩:=b5
 have hE4:=a8.trans hE43
 have hwl:=oS (r.getD 3 [])
 refine p mv (p (xt rfl rfl) (p (xt rfl rfl) (p (xt rfl rfl) (p (xt rfl rfl) (p au (p au (p au ?_)))))))
 refine p au (nl (tn (b1 _ _ (sq (fun c0 b2=>rg rfl (p (az (.pointer (some ⟨H.rb,0,none⟩)) rfl) (p mv (eP rfl (bE iW (jg H.rb ln ((aY (r.getD 3 [])).2.2.2:Nat) w43 (Wk.aA hE4 E.cE)) rfl fun dh cT b6=> ?_) (fun c w' s M G=>⟨_,by rw [kh hlen,bI,xB (show (aY (r.getD 3 [])).2.2.2≠0 by have :=s.2.1; omega)],s.1,by rw [s.2.2]; exact hE4⟩)))))))))
 obtain ⟨rfl,aI,rfl⟩:=b6
 have aI:(aY (r.getD 3 [])).2.2.2=0:=by omega
 refine nl (tn (b2 _ _ ?_))
 refine cQ (fun O ac=> ∃ (U:Tx),(iT (aY (r.getD 3 []))= .ok U)∧(ba ac.heap b7 [.int .i64 (c.kind:Nat),aB c.flag,.bool c.gI,str stx,str U,str [46],.slice none 0 0])∧(ba ac.heap aL (jH c))∧(∃ L,L.length=7∧ba ac.heap Y L)∧(Wk w ac)∧(O 0= .pointer (some ⟨H.rb,0,none⟩))∧(O 2= .slice A r.length C)∧(O 4= .pointer (some ⟨aL,0,none⟩))∧(O 6= .pointer (some ⟨Y,0,none⟩))∧(O 7= .pointer (some ⟨b7,0,none⟩))∧(O 9=str (aY (r.getD 3 [])).2.1)∧(O 10= .bool (aY (r.getD 3 [])).2.2.1)) ?_ ?_
 refine sq (fun aJ Z=>rg rfl (p mv (p (lJ rfl rfl) (nl (tn (Z _ _ (cd rfl (fun aF=> ?_) (fun aF=> ?_))))))))
 refine rg rfl (p (az (.pointer (some ⟨H.rb,0,none⟩)) rfl) (p mv (eP rfl (bE sc (vD H.rb ln (aY (r.getD 3 [])).1 cT (Wk.aA hE4 E.cE) (by omega)) rfl fun di dq b8=> ?_) (fun c w' s M G=>⟨_,by rw [kh hlen,bI,xC aI aF s.2.1],s.1,hE4.trans s.2.2⟩))))
 obtain ⟨rfl,cM,ah⟩:=b8
 refine p (fa B9 rfl) (e (st kK rfl rfl (rfl) (Wk.B (hE43.trans ah) a7) (by simp) fun wt7_4 aX bU=> ?_))
 have hE7:Wk w wt7_4:=(hE4.trans ah).trans' aX (fun k hk h=>by omega)
 have hz5:=(hE43.trans ah).size
 exact nl (tn (⟨(aY (r.getD 3 [])).1,(xD aI aF cM),bU,(aX.B (Wk.B (hE43.trans ah) hb43) (fun h=>by omega)),(⟨_,rfl,aX.B (Wk.B (hE43.trans ah) hb63) (fun h=>by omega)⟩),hE7,rfl,rfl,rfl,rfl,rfl,rfl,rfl⟩))
 exact aE (tn (⟨[],(xE aI (Classical.not_not.1 aF)),(hE43.B a7),(hE43.B hb43),(⟨_,rfl,hE43.B hb63⟩),hE4,rfl,rfl,rfl,rfl,rfl,rfl,rfl⟩))
 rintro O ac ⟨U,aj,aq,ci,bi,I,cv,cx,cy,cA,cB,cC,cw⟩
 refine fx 0 cv (fx 2 cx (fx 4 cy (fx 6 cA (fx 7 cB (fx 9 cC (fx 10 cw ?_))))))
 skip
 refine cQ (fun ap J=> ∃ (nx:List Nat) (vn:Value),(jh F.kind F.aliases c.kind (aY (r.getD 3 []))= .ok nx)∧(ba J.heap b7 [.int .i64 (c.kind:Nat),aB c.flag,.bool c.gI,str stx,str U,str [46],vn])∧(Tg J (b7+1) 71 nx.length vn (nx.map aB))∧(∃ L,L.length=7∧ba J.heap Y L)∧(Wk w J)∧(ap 0= .pointer (some ⟨H.rb,0,none⟩))∧(ap 2= .slice A r.length C)∧(ap 6= .pointer (some ⟨Y,0,none⟩))∧(ap 7= .pointer (some ⟨b7,0,none⟩))) ?_ ?_
 refine sq (fun aJ Z=>rg rfl (p (az (.bool (aY (r.getD 3 [])).2.2.1) rfl) (nl (tn (Z _ _ (cb rfl (fun ak=> ?_) (fun ak=> ?_)))))))
 skip
 refine sq (fun bv aQ=>rg rfl (p (az (.pointer (some ⟨H.rb,0,none⟩)) rfl) (p (fa nW rfl) (p (ld dN rfl ((ci.aA 1).trans rfl)) (p (bu rfl rfl) (eP rfl (bE dS (dX H.rb ln _ 118 ac (Wk.aA I E.cE) (by decide)) rfl fun dj br b9=> ?_) (fun ad w' s M G=>by have h0:=of_decide_eq_false s.2.1; exact ⟨118,by rw [kh hlen,bI]; simp only; rw [aj]; simp only; rw [D8 ak (by omega)],s.1,by rw [s.2.2]; exact I⟩)))))))
 obtain ⟨rfl,hx62,rfl⟩:=b9
 have hx62:=of_decide_eq_true hx62
 refine nl (tn (aQ _ _ (sq (fun bw aR=>rg rfl (p (az (.pointer (some ⟨H.rb,0,none⟩)) rfl) (p (nc rfl) (p (fa dP rfl) (p (ld dC rfl (Wk.aA I ((aU E.cells).trans rfl))) ?_))))))))
 refine p (az (str (aY (r.getD 3 [])).2.1) rfl) (e (cl sG (tz B H.fb H.mc F V (aY (r.getD 3 [])).2.1 _ (G.wk I) aM.kd aM.al (by have :=aM.len; omega) (by have :=oS (r.getD 3 []); omega)) rfl fun cS bs ca=> ?_))
 obtain ⟨cn,aa⟩:=ca
 obtain ⟨a5,a6,rfl,hcs⟩:∃ a,∃ e:Nat,cS= .tuple #[a,.int .i64 (e:Nat)]∧((e=0∧∃ l,dV F.kind F.aliases (aY (r.getD 3 [])).2.1= .ok l∧World.ownsRow bs br.heap.size 71 1 a l.length (l.map aB))∨(e≠0∧dV F.kind F.aliases (aY (r.getD 3 [])).2.1= .error e)):=by
  rcases cn with ⟨a,l,h1,h2,h3⟩ | ⟨a,e,h1,h2,h3⟩
  exact ⟨a,0,h1,.inl ⟨rfl,l,h2,h3⟩⟩
  exact ⟨a,e,h1,.inr ⟨h2,h3⟩⟩
 refine p mv (p (xt rfl rfl) (p (xt rfl rfl) (p au (p au (nl (tn (aR _ _ (sq (fun bx aS=> ?_)))))))))
 refine rg rfl (p (az (.pointer (some ⟨H.rb,0,none⟩)) rfl) (p mv ?_))
 refine eP rfl (bE iW (jg H.rb ln (a6:Nat) bs (Wk.aA (I.trans aa) E.cE)) rfl fun dk cU cc=> ?_) (fun ad w' s M G=>by
  rcases hcs with ⟨h,_⟩ | ⟨h,h1⟩
  exact absurd (by omega) s.2.1
  exact ⟨a6,by rw [kh hlen,bI]; simp only; rw [aj]; simp only; rw [uU ak (by omega),h1],s.1,by rw [s.2.2]; exact I.trans aa⟩)
 obtain ⟨rfl,de,rfl⟩:=cc
 obtain ⟨nx,hnx,a0⟩:∃ l,dV F.kind F.aliases (aY (r.getD 3 [])).2.1= .ok l∧World.ownsRow cU br.heap.size 71 1 a5 l.length (l.map aB):=by
  rcases hcs with ⟨_,h⟩ | ⟨h,_⟩
  exact h
  exact absurd (by omega) h
 refine nl (tn (aS _ _ (rg rfl (p mv (p (fa nV rfl) (e (st nH rfl rfl (dG a0) (aa.B aq) (by simp) fun wt12_2 aV bC=> ?_)))))))
 have hE12:Wk w wt12_2:=(I.trans aa).trans' aV (fun k hk h=>by omega)
 have hz69:=aa.size
 exact nl (tn (⟨nx,a5,((by rw [uU ak (by omega)]; exact hnx)),bC,(((Tg.gj (bF a0 aV (fun k hk h=>by have :=c4 a0 hk; have :=aq.lt; omega))).mono aq.lt)),((by obtain ⟨L,aT,hb⟩:=bi; exact ⟨L,aT,aV.B (aa.B hb) (fun h=>by omega)⟩)),hE12,rfl,rfl,rfl,rfl⟩))
 exact aE (tn (⟨[],.slice none 0 0,(D9 (by simpa using ak)),aq,(⟨none,0,rfl,Nat.le_refl _,.inl rfl⟩),bi,I,rfl,rfl,rfl,rfl⟩))
 rintro ap J ⟨nx,vn,hnx,aN,bf,bk,ai,cD,cF,cG,cI⟩
 refine fx 0 cD (fx 2 cF (fx 6 cG (fx 7 cI ?_)))
 refine cQ (fun a4 am=> ∃ (ae:Tx),(iX r= .ok ae)∧(ba am.heap b7 [.int .i64 (c.kind:Nat),aB c.flag,.bool c.gI,str stx,str U,str ae,vn])∧(Tg am (b7+1) 71 nx.length vn (nx.map aB))∧(∃ L,L.length=7∧ba am.heap Y L)∧(Wk w am)∧(a4 6= .pointer (some ⟨Y,0,none⟩))∧(a4 7= .pointer (some ⟨b7,0,none⟩))) ?_ ?_
 refine sq (fun aJ Z=>rg rfl (p (az (.slice A r.length C) rfl) (p (bp ea rfl rfl) (p (bu rfl rfl) (nl (tn (Z _ _ (cd rfl (fun cm=> ?_) (fun cm=> ?_)))))))))
 have a2:r.length=5:=by omega
 have dc:(r.getD 4 []).length≤70000:=hrl.2 _ (ee (by omega))
 have hTDs:=(hT.wk ai).bK
 refine sq (fun bv aQ=>rg rfl (p (az (.pointer (some ⟨H.rb,0,none⟩)) rfl) (p (az (.slice A r.length C) rfl) (p (aK bO rfl rfl (by omega) (ao.ok (hTDs.2) (bL (by omega)))) (p (ld bW rfl (bh.get (i:=4) hTDs.2 (by omega))) (eP rfl (bE pz (qQ H.rb ln (r.getD 4 []) J (Wk.aA ai E.cE) (by omega)) rfl fun dl dr ce=> ?_) (fun ad w' s M G=>⟨21,by rw [kh hlen,bI]; simp only; rw [aj]; simp only; rw [hnx]; simp only; rw [Ab a2 s.2.1],s.1,ai.trans s.2.2⟩)))))))
 obtain ⟨rfl,bn,aP⟩:=ce
 have hE84x:=ai.trans aP
 have hTEs:=(hT.wk hE84x).bK
 refine nl (tn (aQ _ _ (sq (fun bw aR=>rg rfl (p (az (.slice A r.length C) rfl) (p (aK bO rfl rfl (by omega) (ao.ok (hTEs.2) (bL (by omega)))) (p (ld bW rfl (bh.get (i:=4) hTEs.2 (by omega))) (e (cl yv (Ak (r.getD 4 []) _ (by omega)) rfl fun dm ds cf=> ?_)))))))))
 obtain ⟨⟨c2,rfl,a1⟩,hE89⟩:=cf
 obtain ⟨cN,cO,rfl⟩:=cH a1
 have hE89x:=hE84x.trans hE89
 refine p mv (p (xt rfl rfl) (p (xt rfl rfl) (e (al rr fun c3 w14 hb14 ay bD=> ?_))))
 have hE14:=hE89x.trans ay.md
 refine e (bJ kJ rfl rfl rfl rfl (bD) (by simp) fun wt15_8 ab bG=> ?_)
 have aO:Wk w wt15_8:=hE14.trans' ab (fun k hk h=>by have :=hE89x.size; omega)
 have a3:Wk J w14:=(aP.trans hE89).trans ay.md
 have hzD:=aP.size
 have hzE:=hE89.size
 have hzF:=ay.size
 have hzG:=ab.size
 have cL:Wk J wt15_8:=a3.trans' ab (fun k hk h=>by omega)
 refine p au (nl (tn (aR _ _ (sq (fun bx aS=>rg rfl (p (az (.pointer (some ⟨H.rb,0,none⟩)) rfl) (p mv (eP rfl (bE iW (jg H.rb ln ((dH (r.getD 4 [])).2:Nat) wt15_8 (Wk.aA aO E.cE)) rfl fun dn dt cg=> ?_) (fun ad w' s M G=>⟨_,by rw [kh hlen,bI]; simp only; rw [aj]; simp only; rw [hnx]; simp only; rw [Ac a2 bn (by have :=s.2.1; omega)],s.1,by rw [s.2.2]; exact aO⟩)))))))))
 obtain ⟨rfl,bq,rfl⟩:=cg
 have bq:(dH (r.getD 4 [])).2=0:=by omega
 refine nl (tn (aS _ _ (rg rfl (p (cR j4 rfl (rfl) (fun j bl=>bG.bS j)) (e (cl yw (EX (dH (r.getD 4 [])).1 cN cO _ (ao.md (ao.wk (aG a1).2 ay.md) ab (fun hne h=>by have :=Ey a1 hne; omega)) (by have :=Aj (r.getD 4 []); omega)) rfl fun dp w96 ch=> ?_))))))
 obtain ⟨rfl,hE96⟩:=ch
 have hE96x:=aO.trans hE96
 have hz96:=hE96.size
 refine p (fa Ca rfl) (e (st kK rfl rfl (rfl) (hE96.B (ab.B (a3.B aN) (fun h=>by have :=aN.lt; omega))) (by simp) fun wt17_3 aW bM=> ?_))
 have hE17:Wk w wt17_3:=hE96x.trans' aW (fun k hk h=>by omega)
 exact nl (tn (⟨lO (dH (r.getD 4 [])).1,(Ad a2 bn bq),bM,((Tg.uS (Tg.wk bf (cL.trans hE96)) aW (fun k hk=>by omega))),((by obtain ⟨L,aT,hb⟩:=bk; exact ⟨L,aT,aW.B (hE96.B (ab.B (a3.B hb) (fun h=>by have :=hb.lt; omega))) (fun h=>by omega)⟩)),hE17,rfl,rfl⟩))
 exact aE (tn (⟨[46],(Ae (by omega)),aN,bf,bk,ai,rfl,rfl⟩))
 rintro a4 am ⟨ae,co,bV,bd,cj,hEZ,cJ,cK⟩
 refine fx 6 cJ (fx 7 cK ?_)
 obtain ⟨c1,b3,ck⟩:=cj
 obtain ⟨bA,bB,rfl⟩:=bd.slice
 refine sq (fun aJ Z=>rg rfl (p (cR o3 rfl (rfl) (fun j bl=>bV.bS j)) (e (bJ pJ rfl rfl rfl rfl (ck) (by rw [b3]; decide) fun du a9 bN=>nl (tn (Z _ _ (rt (eW ?_))))))))
 exact mq rfl (dd (cs:=gl (⟨c.kind,c.flag,c.gI,stx,U,ae,nx,ln⟩,.slice bA nx.length bB)) rfl o3 rfl (fun j bl=>by rw [bN.bS j,List.drop_eq_nil_of_le (by omega),List.append_nil]; rfl)) (⟨⟨c.kind,c.flag,c.gI,stx,U,ae,nx,ln⟩,by rw [kh hlen,bI]; simp only; rw [aj]; simp only; rw [hnx]; simp only; rw [co],rfl,⟨_,rfl,(Tg.uS bd a9 (fun k hk=>by have :=aC.size; omega)).mono (by omega)⟩,hEZ.trans' a9 (fun k hk h=>by omega)⟩)
end Go.Hb.fz
end
section
set_option maxRecDepth 20000
set_option maxHeartbeats 1000000
namespace Go.Hb.ju
open Go.Hb.cU
open Go.Proofs
open Go.Hb.eK
def dW (s:Tx):Option Value:=if s=bU then some (Value.agg #[.int .i64 (4:Nat),.func (.func 65) #[] #[]]) else if s=e0 then some (Value.agg #[.int .i64 (4:Nat),.func (.func 65) #[] #[]]) else if s=eY then some (Value.agg #[.int .i64 (2:Nat),.func (.func 64) #[] #[]]) else if s=fq then some (Value.agg #[.int .i64 (2:Nat),.func (.func 63) #[] #[]]) else if s=gO then some (Value.agg #[.int .i64 (2:Nat),.func (.func 62) #[] #[]]) else if s=gx then some (Value.agg #[.int .i64 (2:Nat),.func (.func 61) #[] #[]]) else if s=gd then some (Value.agg #[.int .i64 (2:Nat),.func (.func 61) #[] #[]]) else if s=fQ then some (Value.agg #[.int .i64 (2:Nat),.func (.func 61) #[] #[]]) else if s=fL then some (Value.agg #[.int .i64 (2:Nat),.func (.func 61) #[] #[]]) else if s=fG then some (Value.agg #[.int .i64 (2:Nat),.func (.func 61) #[] #[]]) else if s=fu then some (Value.agg #[.int .i64 (2:Nat),.func (.func 60) #[] #[]]) else if s=e9 then some (Value.agg #[.int .i64 (2:Nat),.func (.func 59) #[] #[]]) else if s=eZ then some (Value.agg #[.int .i64 (2:Nat),.func (.func 58) #[] #[]]) else none
def zF:Value→Option Value:=fun _=>none
def zG:Tx→Option Value:=fun _=>none
theorem str_inj {a b:Tx} :str a=str b↔a=b:=⟨fun h=>by unfold str at h; cases h; rfl,fun h=>by rw [h]⟩
theorem gP {f:Value→Option Value} {g:Tx→Option Value} {k:Tx} {v:Value} (h:∀ s,f (str s)=g s) (s:Tx):a3 f (str k) v (str s)=if s=k then some v else g s:=by
 by_cases hs:s=k
 · subst hs; rw [mO,if_pos rfl]
 · rw [lM (fun h2=>hs (str_inj.1 h2)),if_neg hs,h s]
theorem CM (w:World):
 aT Tryz.prog 32 (List.toArray []) w (fun v w'=> ∃ b,v= .map (some b)∧b=w.heap.size∧(∃ f,bl w'.heap b eH f∧∀ s,f (str s)=dW s)∧Wk w w'):=by
 refine enter Tryz.func32 rfl Tryz.ntmps32 rfl ?_
 refine ae (fun _ c=>(aj (((c _ _ (ae (fun _ i=>(e (mI fun a w1 aR an hB1=> ?_)))))))))
 have ao:bl w1.heap a eH zF:=bl.nil hB1
 have aS:∀ s:Tx,zF (str s)=zG s:=fun _=>rfl
 have j:Wk w w1:=an.md
 refine p (cz (ps:= [(0,U 2),(1,.func (.func 58) #[] #[])]) (L:= [U 2,.func (.func 58) #[] #[]]) gU rfl (rfl)) (e (gN gC eu (ao) rfl rfl rfl (⟨_,rfl⟩) fun wm1_2 ac aw=> ?_))
 have aE:bl wm1_2.heap a eH (a3 zF (str eZ) (Value.agg #[U 2,.func (.func 58) #[] #[]])):=aw
 have hg1:=gP (k:=eZ) (v:=Value.agg #[U 2,.func (.func 58) #[] #[]]) aS
 have q:Wk w wm1_2:=j.trans' ac (fun k hk h=>by omega)
 refine p (cz (ps:= [(0,U 2),(1,.func (.func 59) #[] #[])]) (L:= [U 2,.func (.func 59) #[] #[]]) gU rfl (rfl)) (e (gN gC eu (aE) rfl rfl rfl (⟨_,rfl⟩) fun wm1_4 ak aB=> ?_))
 have aF:bl wm1_4.heap a eH (a3 (a3 zF (str eZ) (Value.agg #[U 2,.func (.func 58) #[] #[]])) (str e9) (Value.agg #[U 2,.func (.func 59) #[] #[]])):=aB
 have hg2:=gP (k:=e9) (v:=Value.agg #[U 2,.func (.func 59) #[] #[]]) hg1
 have G:Wk w wm1_4:=q.trans' ak (fun k hk h=>by omega)
 refine p (cz (ps:= [(0,U 2),(1,.func (.func 60) #[] #[])]) (L:= [U 2,.func (.func 60) #[] #[]]) gU rfl (rfl)) (e (gN gC eu (aF) rfl rfl rfl (⟨_,rfl⟩) fun wm1_6 al aC=> ?_))
 have aJ:bl wm1_6.heap a eH (a3 (a3 (a3 zF (str eZ) (Value.agg #[U 2,.func (.func 58) #[] #[]])) (str e9) (Value.agg #[U 2,.func (.func 59) #[] #[]])) (str fu) (Value.agg #[U 2,.func (.func 60) #[] #[]])):=aC
 have hg3:=gP (k:=fu) (v:=Value.agg #[U 2,.func (.func 60) #[] #[]]) hg2
 have I:Wk w wm1_6:=G.trans' al (fun k hk h=>by omega)
 refine p (cz (ps:= [(0,U 2),(1,.func (.func 61) #[] #[])]) (L:= [U 2,.func (.func 61) #[] #[]]) gU rfl (rfl)) (e (gN gC eu (aJ) rfl rfl rfl (⟨_,rfl⟩) fun wm1_8 am aD=> ?_))
 have aK:bl wm1_8.heap a eH (a3 (a3 (a3 (a3 zF (str eZ) (Value.agg #[U 2,.func (.func 58) #[] #[]])) (str e9) (Value.agg #[U 2,.func (.func 59) #[] #[]])) (str fu) (Value.agg #[U 2,.func (.func 60) #[] #[]])) (str fG) (Value.agg #[U 2,.func (.func 61) #[] #[]])):=aD
 have hg4:=gP (k:=fG) (v:=Value.agg #[U 2,.func (.func 61) #[] #[]]) hg3
 have hE4:Wk w wm1_8:=I.trans' am (fun k hk h=>by omega)
 refine p (cz (ps:= [(0,U 2),(1,.func (.func 61) #[] #[])]) (L:= [U 2,.func (.func 61) #[] #[]]) gU rfl (rfl)) (e (gN gC eu (aK) rfl rfl rfl (⟨_,rfl⟩) fun wm1_10 V ap=> ?_))
 have aL:bl wm1_10.heap a eH (a3 (a3 (a3 (a3 (a3 zF (str eZ) (Value.agg #[U 2,.func (.func 58) #[] #[]])) (str e9) (Value.agg #[U 2,.func (.func 59) #[] #[]])) (str fu) (Value.agg #[U 2,.func (.func 60) #[] #[]])) (str fG) (Value.agg #[U 2,.func (.func 61) #[] #[]])) (str fL) (Value.agg #[U 2,.func (.func 61) #[] #[]])):=ap
 have hg5:=gP (k:=fL) (v:=Value.agg #[U 2,.func (.func 61) #[] #[]]) hg4
 have hE5:Wk w wm1_10:=hE4.trans' V (fun k hk h=>by omega)
 refine p (cz (ps:= [(0,U 2),(1,.func (.func 61) #[] #[])]) (L:= [U 2,.func (.func 61) #[] #[]]) gU rfl (rfl)) (e (gN gC eu (aL) rfl rfl rfl (⟨_,rfl⟩) fun wm1_12 Y aq=> ?_))
 have aM:bl wm1_12.heap a eH (a3 (a3 (a3 (a3 (a3 (a3 zF (str eZ) (Value.agg #[U 2,.func (.func 58) #[] #[]])) (str e9) (Value.agg #[U 2,.func (.func 59) #[] #[]])) (str fu) (Value.agg #[U 2,.func (.func 60) #[] #[]])) (str fG) (Value.agg #[U 2,.func (.func 61) #[] #[]])) (str fL) (Value.agg #[U 2,.func (.func 61) #[] #[]])) (str fQ) (Value.agg #[U 2,.func (.func 61) #[] #[]])):=aq
 have hg6:=gP (k:=fQ) (v:=Value.agg #[U 2,.func (.func 61) #[] #[]]) hg5
 have J:Wk w wm1_12:=hE5.trans' Y (fun k hk h=>by omega)
 refine p (cz (ps:= [(0,U 2),(1,.func (.func 61) #[] #[])]) (L:= [U 2,.func (.func 61) #[] #[]]) gU rfl (rfl)) (e (gN gC eu (aM) rfl rfl rfl (⟨_,rfl⟩) fun wm1_14 Z ar=> ?_))
 have aN:bl wm1_14.heap a eH (a3 (a3 (a3 (a3 (a3 (a3 (a3 zF (str eZ) (Value.agg #[U 2,.func (.func 58) #[] #[]])) (str e9) (Value.agg #[U 2,.func (.func 59) #[] #[]])) (str fu) (Value.agg #[U 2,.func (.func 60) #[] #[]])) (str fG) (Value.agg #[U 2,.func (.func 61) #[] #[]])) (str fL) (Value.agg #[U 2,.func (.func 61) #[] #[]])) (str fQ) (Value.agg #[U 2,.func (.func 61) #[] #[]])) (str gd) (Value.agg #[U 2,.func (.func 61) #[] #[]])):=ar
 have hg7:=gP (k:=gd) (v:=Value.agg #[U 2,.func (.func 61) #[] #[]]) hg6
 have hE7:Wk w wm1_14:=J.trans' Z (fun k hk h=>by omega)
 refine p (cz (ps:= [(0,U 2),(1,.func (.func 61) #[] #[])]) (L:= [U 2,.func (.func 61) #[] #[]]) gU rfl (rfl)) (e (gN gC eu (aN) rfl rfl rfl (⟨_,rfl⟩) fun wm1_16 aa au=> ?_))
 have aO:bl wm1_16.heap a eH (a3 (a3 (a3 (a3 (a3 (a3 (a3 (a3 zF (str eZ) (Value.agg #[U 2,.func (.func 58) #[] #[]])) (str e9) (Value.agg #[U 2,.func (.func 59) #[] #[]])) (str fu) (Value.agg #[U 2,.func (.func 60) #[] #[]])) (str fG) (Value.agg #[U 2,.func (.func 61) #[] #[]])) (str fL) (Value.agg #[U 2,.func (.func 61) #[] #[]])) (str fQ) (Value.agg #[U 2,.func (.func 61) #[] #[]])) (str gd) (Value.agg #[U 2,.func (.func 61) #[] #[]])) (str gx) (Value.agg #[U 2,.func (.func 61) #[] #[]])):=au
 have hg8:=gP (k:=gx) (v:=Value.agg #[U 2,.func (.func 61) #[] #[]]) hg7
 have M:Wk w wm1_16:=hE7.trans' aa (fun k hk h=>by omega)
 refine p (cz (ps:= [(0,U 2),(1,.func (.func 62) #[] #[])]) (L:= [U 2,.func (.func 62) #[] #[]]) gU rfl (rfl)) (e (gN gC eu (aO) rfl rfl rfl (⟨_,rfl⟩) fun wm1_18 ab av=> ?_))
 have aP:bl wm1_18.heap a eH (a3 (a3 (a3 (a3 (a3 (a3 (a3 (a3 (a3 zF (str eZ) (Value.agg #[U 2,.func (.func 58) #[] #[]])) (str e9) (Value.agg #[U 2,.func (.func 59) #[] #[]])) (str fu) (Value.agg #[U 2,.func (.func 60) #[] #[]])) (str fG) (Value.agg #[U 2,.func (.func 61) #[] #[]])) (str fL) (Value.agg #[U 2,.func (.func 61) #[] #[]])) (str fQ) (Value.agg #[U 2,.func (.func 61) #[] #[]])) (str gd) (Value.agg #[U 2,.func (.func 61) #[] #[]])) (str gx) (Value.agg #[U 2,.func (.func 61) #[] #[]])) (str gO) (Value.agg #[U 2,.func (.func 62) #[] #[]])):=av
 have hg9:=gP (k:=gO) (v:=Value.agg #[U 2,.func (.func 62) #[] #[]]) hg8
 have O:Wk w wm1_18:=M.trans' ab (fun k hk h=>by omega)
 refine p (cz (ps:= [(0,U 2),(1,.func (.func 63) #[] #[])]) (L:= [U 2,.func (.func 63) #[] #[]]) gU rfl (rfl)) (e (gN gC eu (aP) rfl rfl rfl (⟨_,rfl⟩) fun wm1_20 ad ax=> ?_))
 have aQ:bl wm1_20.heap a eH (a3 (a3 (a3 (a3 (a3 (a3 (a3 (a3 (a3 (a3 zF (str eZ) (Value.agg #[U 2,.func (.func 58) #[] #[]])) (str e9) (Value.agg #[U 2,.func (.func 59) #[] #[]])) (str fu) (Value.agg #[U 2,.func (.func 60) #[] #[]])) (str fG) (Value.agg #[U 2,.func (.func 61) #[] #[]])) (str fL) (Value.agg #[U 2,.func (.func 61) #[] #[]])) (str fQ) (Value.agg #[U 2,.func (.func 61) #[] #[]])) (str gd) (Value.agg #[U 2,.func (.func 61) #[] #[]])) (str gx) (Value.agg #[U 2,.func (.func 61) #[] #[]])) (str gO) (Value.agg #[U 2,.func (.func 62) #[] #[]])) (str fq) (Value.agg #[U 2,.func (.func 63) #[] #[]])):=ax
 have hg10:=gP (k:=fq) (v:=Value.agg #[U 2,.func (.func 63) #[] #[]]) hg9
 have A:Wk w wm1_20:=O.trans' ad (fun k hk h=>by omega)
 refine p (cz (ps:= [(0,U 2),(1,.func (.func 64) #[] #[])]) (L:= [U 2,.func (.func 64) #[] #[]]) gU rfl (rfl)) (e (gN gC eu (aQ) rfl rfl rfl (⟨_,rfl⟩) fun wm1_22 ag ay=> ?_))
 have aG:bl wm1_22.heap a eH (a3 (a3 (a3 (a3 (a3 (a3 (a3 (a3 (a3 (a3 (a3 zF (str eZ) (Value.agg #[U 2,.func (.func 58) #[] #[]])) (str e9) (Value.agg #[U 2,.func (.func 59) #[] #[]])) (str fu) (Value.agg #[U 2,.func (.func 60) #[] #[]])) (str fG) (Value.agg #[U 2,.func (.func 61) #[] #[]])) (str fL) (Value.agg #[U 2,.func (.func 61) #[] #[]])) (str fQ) (Value.agg #[U 2,.func (.func 61) #[] #[]])) (str gd) (Value.agg #[U 2,.func (.func 61) #[] #[]])) (str gx) (Value.agg #[U 2,.func (.func 61) #[] #[]])) (str gO) (Value.agg #[U 2,.func (.func 62) #[] #[]])) (str fq) (Value.agg #[U 2,.func (.func 63) #[] #[]])) (str eY) (Value.agg #[U 2,.func (.func 64) #[] #[]])):=ay
 have hg11:=gP (k:=eY) (v:=Value.agg #[U 2,.func (.func 64) #[] #[]]) hg10
 have C:Wk w wm1_22:=A.trans' ag (fun k hk h=>by omega)
 refine p (cz (ps:= [(0,U 4),(1,.func (.func 65) #[] #[])]) (L:= [U 4,.func (.func 65) #[] #[]]) gU rfl (rfl)) (e (gN gC eu (aG) rfl rfl rfl (⟨_,rfl⟩) fun wm1_24 ah az=> ?_))
 have aH:bl wm1_24.heap a eH (a3 (a3 (a3 (a3 (a3 (a3 (a3 (a3 (a3 (a3 (a3 (a3 zF (str eZ) (Value.agg #[U 2,.func (.func 58) #[] #[]])) (str e9) (Value.agg #[U 2,.func (.func 59) #[] #[]])) (str fu) (Value.agg #[U 2,.func (.func 60) #[] #[]])) (str fG) (Value.agg #[U 2,.func (.func 61) #[] #[]])) (str fL) (Value.agg #[U 2,.func (.func 61) #[] #[]])) (str fQ) (Value.agg #[U 2,.func (.func 61) #[] #[]])) (str gd) (Value.agg #[U 2,.func (.func 61) #[] #[]])) (str gx) (Value.agg #[U 2,.func (.func 61) #[] #[]])) (str gO) (Value.agg #[U 2,.func (.func 62) #[] #[]])) (str fq) (Value.agg #[U 2,.func (.func 63) #[] #[]])) (str eY) (Value.agg #[U 2,.func (.func 64) #[] #[]])) (str e0) (Value.agg #[U 4,.func (.func 65) #[] #[]])):=az
 have hg12:=gP (k:=e0) (v:=Value.agg #[U 4,.func (.func 65) #[] #[]]) hg11
 have hE12:Wk w wm1_24:=C.trans' ah (fun k hk h=>by omega)
 refine p (cz (ps:= [(0,U 4),(1,.func (.func 65) #[] #[])]) (L:= [U 4,.func (.func 65) #[] #[]]) gU rfl (rfl)) (e (gN gC eu (aH) rfl rfl rfl (⟨_,rfl⟩) fun wm1_26 ai aA=> ?_))
 have aI:bl wm1_26.heap a eH (a3 (a3 (a3 (a3 (a3 (a3 (a3 (a3 (a3 (a3 (a3 (a3 (a3 zF (str eZ) (Value.agg #[U 2,.func (.func 58) #[] #[]])) (str e9) (Value.agg #[U 2,.func (.func 59) #[] #[]])) (str fu) (Value.agg #[U 2,.func (.func 60) #[] #[]])) (str fG) (Value.agg #[U 2,.func (.func 61) #[] #[]])) (str fL) (Value.agg #[U 2,.func (.func 61) #[] #[]])) (str fQ) (Value.agg #[U 2,.func (.func 61) #[] #[]])) (str gd) (Value.agg #[U 2,.func (.func 61) #[] #[]])) (str gx) (Value.agg #[U 2,.func (.func 61) #[] #[]])) (str gO) (Value.agg #[U 2,.func (.func 62) #[] #[]])) (str fq) (Value.agg #[U 2,.func (.func 63) #[] #[]])) (str eY) (Value.agg #[U 2,.func (.func 64) #[] #[]])) (str e0) (Value.agg #[U 4,.func (.func 65) #[] #[]])) (str bU) (Value.agg #[U 4,.func (.func 65) #[] #[]])):=aA
 have hg13:=gP (k:=bU) (v:=Value.agg #[U 4,.func (.func 65) #[] #[]]) hg12
 have E:Wk w wm1_26:=hE12.trans' ai (fun k hk h=>by omega)
 exact p mv (aj (((i _ _ (rt (f1 rfl rfl (⟨a,rfl,aR,⟨_,aI,fun s=>hg13 s⟩,E⟩)))))))
end Go.Hb.ju
end
section
set_option maxRecDepth 20000
set_option maxHeartbeats 1000000
namespace Go.Hb.iP
open Go.Hb.cU
open Go.Proofs
open Go.Hb.eK Go.Hb.fg Go.Hb.jt Go.Hb.fz Go.Hb.jy Go.Hb.gZ Go.Hb.kt Go.Hb.fJ Go.Hb.k3 Go.Hb.l3 Go.Hb.fY Go.Hb.fX
theorem bH.x4 {w w1 c:World} {B fb mc:Nat} {F:aH} {V:db} {v:Value} {x:Tx×Tx} (h:bH w B fb mc F V) (hm:Md (fun k=>V.v9.ownBlock=some k) w w1) (j:World.ownsRow w1 B 163 2 v (F.bM++ [x]).length (iK (F.bM++ [x]))) (a:Md (fun k=>k=fb) w1 c) (hc:c.heap[fb]? =some (.cells (jb {F with bM:=F.bM++ [x]} {V with v9:=v} mc).toArray 89 (0,0))):bH c B fb mc {F with bM:=F.bM++ [x]} {V with v9:=v} :=by
 have hT:TF w [165] (fun k=>V.v9.ownBlock=some k):=TF.own h.o9 (by decide)
 have hcl:=hm.g6 hT h.cells (by decide)
 have hT2:TF w1 [91] (fun k=>k=fb):=TF.eq (c6 hcl) (by decide)
 have hfl:∀ k,V.v9.ownBlock=some k→∀ cur z,w.heap[k]?≠some (.cells cur 71 z):=fw h.o9 (by decide)
 have i:∀ k,k=fb→∀ cur z,w1.heap[k]?≠some (.cells cur 71 z):=eE hcl (by decide)
 obtain ⟨f,hf,p⟩:=h.cm
 have hmt:=cg (hf.md hm (hT.no (cg hf) (by decide)))
 exact ⟨hc,bF j a (fun k hk hf=>cG j hcl (by decide) (hf ▸ hk)),cB (cB h.eT hm hT (by decide)) a hT2 (by decide),(h.al.md hm hfl).md a i,cB (cB h.eh hm hT (by decide)) a hT2 (by decide),cB (cB h.dQ hm hT (by decide)) a hT2 (by decide),(h.nx.md hm hfl).md a i,⟨f,(hf.md hm (hT.no (cg hf) (by decide))).md a (hT2.no hmt (by decide)),p⟩,h.lo,h.fT⟩
theorem bH.xY {w w1 i:World} {B fb mc:Nat} {F:aH} {V:db} {v:Value} {x:List Nat} {vx:Value} (h:bH w B fb mc F V) (q:Tg w B 71 x.length vx (x.map aB)) (hm:Md (fun k=>V.v10.ownBlock=some k) w w1) (j:World.ownsRow w1 B 54 1 v (F.aliases++ [x]).length ((V.sa++ [vx]))) (a:Md (fun k=>k=fb) w1 i) (hc:i.heap[fb]? =some (.cells (jb {F with aliases:=F.aliases++ [x]} {V with v10:=v,sa:=V.sa++ [vx]} mc).toArray 89 (0,0))):bH i B fb mc {F with aliases:=F.aliases++ [x]} {V with v10:=v,sa:=V.sa++ [vx]} :=by
 have hT:TF w [56] (fun k=>V.v10.ownBlock=some k):=TF.own h.eT (by decide)
 have hcl:=hm.g6 hT h.cells (by decide)
 have hT2:TF w1 [91] (fun k=>k=fb):=TF.eq (c6 hcl) (by decide)
 have hfl:∀ k,V.v10.ownBlock=some k→∀ cur z,w.heap[k]?≠some (.cells cur 71 z):=fw h.eT (by decide)
 have c:∀ k,k=fb→∀ cur z,w1.heap[k]?≠some (.cells cur 71 z):=eE hcl (by decide)
 obtain ⟨f,hf,p⟩:=h.cm
 have hmt:=cg (hf.md hm (hT.no (cg hf) (by decide)))
 exact ⟨hc,cB (cB h.o9 hm hT (by decide)) a hT2 (by decide),bF j a (fun k hk hf=>cG j hcl (by decide) (hf ▸ hk)),((h.al.md hm hfl).md a c).snoc ((q.md hm hfl).md a c),cB (cB h.eh hm hT (by decide)) a hT2 (by decide),cB (cB h.dQ hm hT (by decide)) a hT2 (by decide),(h.nx.md hm hfl).md a c,⟨f,(hf.md hm (hT.no (cg hf) (by decide))).md a (hT2.no hmt (by decide)),p⟩,h.lo,h.fT⟩
theorem bH.x3 {w w1 i:World} {B fb mc:Nat} {F:aH} {V:db} {v:Value} {x:eO} {vx:Value} (h:bH w B fb mc F V) (q:Tg w B 71 x.next.length vx (x.next.map aB)) (hm:Md (fun k=>V.dw.ownBlock=some k) w w1) (j:World.ownsRow w1 B 155 7 v (F.rules++ [x]).length (eU ((F.rules++ [x]).zip (V.rn++ [vx])))) (a:Md (fun k=>k=fb) w1 i) (hc:i.heap[fb]? =some (.cells (jb {F with rules:=F.rules++ [x]} {V with dw:=v,rn:=V.rn++ [vx]} mc).toArray 89 (0,0))):bH i B fb mc {F with rules:=F.rules++ [x]} {V with dw:=v,rn:=V.rn++ [vx]} :=by
 have hT:TF w [157] (fun k=>V.dw.ownBlock=some k):=TF.own h.dQ (by decide)
 have hcl:=hm.g6 hT h.cells (by decide)
 have hT2:TF w1 [91] (fun k=>k=fb):=TF.eq (c6 hcl) (by decide)
 have hfl:∀ k,V.dw.ownBlock=some k→∀ cur z,w.heap[k]?≠some (.cells cur 71 z):=fw h.dQ (by decide)
 have c:∀ k,k=fb→∀ cur z,w1.heap[k]?≠some (.cells cur 71 z):=eE hcl (by decide)
 obtain ⟨f,hf,p⟩:=h.cm
 have hmt:=cg (hf.md hm (hT.no (cg hf) (by decide)))
 exact ⟨hc,cB (cB h.o9 hm hT (by decide)) a hT2 (by decide),cB (cB h.eT hm hT (by decide)) a hT2 (by decide),(h.al.md hm hfl).md a c,cB (cB h.eh hm hT (by decide)) a hT2 (by decide),bF j a (fun k hk hf=>cG j hcl (by decide) (hf ▸ hk)),(by rw [List.map_append]; exact ((h.nx.md hm hfl).md a c).snoc ((q.md hm hfl).md a c)),⟨f,(hf.md hm (hT.no (cg hf) (by decide))).md a (hT2.no hmt (by decide)),p⟩,h.lo,h.fT⟩
theorem bo.own {w w':World} {B:Nat} {H:bj} {F:aH} {R:dM} {rows:List Rw} {ln:Nat} {seen:List Tx} {a e s n:Nat} {v:Value} {xs:List Value} (h:bo w B H F R rows ln seen) (i:World.ownsRow w a e s v n xs) (hm:Md (fun k=>v.ownBlock=some k) w w') (c:([e+2].contains 94 || [e+2].contains 107 || [e+2].contains 11 || [e+2].contains 5)=false):bo w' B H F R rows ln seen:=by
 have hT:TF w [e+2] (fun k=>v.ownBlock=some k):=TF.own i (by simp)
 obtain ⟨f,hf,_⟩:=h.sm
 obtain ⟨g,hg,_⟩:=h.tm
 exact h.md hm hT c (hT.no (cg hf) (by simp)) (hT.no (cg hg) (by simp))
theorem bo.nR {w w':World} {B:Nat} {H:bj} {F:aH} {R:dM} {rows:List Rw} {ln:Nat} {seen:List Tx} {cs:Array Value} {z:Nat×Nat} (h:bo w B H F R rows ln seen) (hc:w.heap[H.fb]? =some (.cells cs 89 z)) (hm:Md (fun k=>k=H.fb) w w'):bo w' B H F R rows ln seen:=by
 have hT:TF w [91] (fun k=>k=H.fb):=TF.eq (c6 hc) (by decide)
 obtain ⟨f,hf,a⟩:=h.sm
 obtain ⟨g,hg,hg2⟩:=h.tm
 exact h.md hm hT (by decide) (hT.no (cg hf) (by decide)) (hT.no (cg hg) (by decide))
theorem Tg.qI {w:World} {b e n:Nat} {L:List Value} {z:Nat×Nat} (h:w.heap[b]? =some (.cells L.toArray e z)) (hn:n=L.length):Tg w b e n (.slice (some ⟨b,0,none⟩) n n) L:=⟨_,_,rfl,Nat.le_refl _,.inr ⟨b,_,_,rfl,Nat.le_refl _,h,fun j u hu=>by simpa using hu⟩⟩
theorem fV.lu {F:aH} {q:Rw} {rest:List Rw} {seen:List Tx} (h:fV F (q::rest) seen):fV F rest seen:=⟨by have :=h.len; simp only [List.length_cons] at this; omega,by have :=h.sl; simp only [List.length_cons] at this; omega,fun q2 h2=>h.row q2 (List.mem_cons_of_mem _ h2),h.kd,h.al⟩
theorem Fp {eof ln e:Nat} {F:aH} {rows:List Rw} {r:List Tx} (h:cJ (r.getD 1 []) 256= .error e):gB eof F rows ln r= .error (ln,e):=by unfold gB; rw [h]
theorem mR {eof ln n:Nat} {F:aH} {rows:List Rw} {r:List Tx} {e:Nat×Nat} (h:cJ (r.getD 1 []) 256= .ok n) (h1:group [fq] ij eof n rows= .error e):gB eof F rows ln r= .error e:=by unfold gB; rw [h]; simp only; rw [h1]
theorem Fq {eof ln n:Nat} {F:aH} {rows:List Rw} {r:List Tx} {q:List (Tx×Tx)×List Rw} (h:cJ (r.getD 1 []) 256= .ok n) (h1:group [fq] ij eof n rows= .ok q):gB eof F rows ln r= .ok ({F with bM:=F.bM++q.1},q.2):=by unfold gB; rw [h]; simp only; rw [h1]
theorem qG {s:Tx} {most:Int} {n:Nat} (h:cJ s most= .ok n):(n:Int)≤most:=by
 unfold cJ at h
 split at h
 · cases h
 · rename_i h0; cases h; exact oc s most (Classical.not_not.1 h0)
theorem xP {eof ln:Nat} {F:aH} {hs:List Tx} {rows:List Rw} {r:List Tx} (h:e0∈hs∨bU∈hs):ga eof F hs rows ln r= .error (ln,113):=if_pos h
theorem xQ {eof ln e:Nat} {F:aH} {hs:List Tx} {rows:List Rw} {r:List Tx} (h0:¬(e0∈hs∨bU∈hs)) (h:cJ (r.getD 1 []) 1024= .error e):ga eof F hs rows ln r= .error (ln,e):=by unfold ga; rw [if_neg h0,h]
theorem nk {eof ln n:Nat} {F:aH} {hs:List Tx} {rows:List Rw} {r:List Tx} {e:Nat×Nat} (h0:¬(e0∈hs∨bU∈hs)) (h:cJ (r.getD 1 []) 1024= .ok n) (h1:group [eY] (iu F.kind) eof n rows= .error e):ga eof F hs rows ln r= .error e:=by unfold ga; rw [if_neg h0,h]; simp only; rw [h1]
theorem xR {eof ln n:Nat} {F:aH} {hs:List Tx} {rows:List Rw} {r:List Tx} {q:List (List Nat)×List Rw} (h0:¬(e0∈hs∨bU∈hs)) (h:cJ (r.getD 1 []) 1024= .ok n) (h1:group [eY] (iu F.kind) eof n rows= .ok q):ga eof F hs rows ln r= .ok ({F with aliases:=F.aliases++q.1},q.2):=by unfold ga; rw [if_neg h0,h]; simp only; rw [h1]
theorem xL {kind ln:Nat} {r:List Tx} (h:r.length≠2):iu kind ln r= .error 111:=if_pos h
theorem rM {kind ln:Nat} {r:List Tx} (h:r.length=2):iu kind ln r=h8 kind (r.getD 1 []):=if_neg (by omega)
theorem tT {kind:Nat} {s:Tx} (h:(dx kind s).2=0):(dx kind s).1.length≤64∧(dx kind s).1.Pairwise (· < ·):=by
 unfold dx at h ⊢
 split
 · simp
 · split
   · simp
   · split
     · simp
     · rename_i h3
       exact ⟨by have :=En ((c5 kind s).map (c8 kind)); rw [List.length_map] at this; exact Nat.le_trans this (by omega),vg _⟩
theorem Fi {ln:Nat} {r:List Tx} (h:r.length≠3):ij ln r= .error 111:=if_pos h
theorem Fj {ln e:Nat} {r:List Tx} (h:r.length=3) (h1:dY false (r.getD 1 [])= .error e):ij ln r= .error e:=by unfold ij; rw [if_neg (by omega),h1]
theorem Fk {ln e:Nat} {r:List Tx} {a:Tx} (h:r.length=3) (h1:dY false (r.getD 1 [])= .ok a) (h2:dY true (r.getD 2 [])= .error e):ij ln r= .error e:=by unfold ij; rw [if_neg (by omega),h1]; simp only; rw [h2]
theorem Fl {ln:Nat} {r:List Tx} {a b:Tx} (h:r.length=3) (h1:dY false (r.getD 1 [])= .ok a) (h2:dY true (r.getD 2 [])= .ok b):ij ln r= .ok (a,b):=by unfold ij; rw [if_neg (by omega),h1]; simp only; rw [h2]
theorem Fs (B:Nat) (H:bj) (F:aH) (rows:List Rw) (ln:Nat) (seen:List Tx) (r:List Tx) (aD:Nat) (ae:Option Addr) (ag:Nat) (w:World) (A:St w B H F rows ln seen) (hT:Tg w aD 9 r.length (.slice ae r.length ag) (r.map str)) (hr:r.length=2) (hrl:∀ x∈r,x.length≤70000):
 cW Tryz.prog 63 (List.toArray [.pointer (some ⟨H.rb,0,none⟩),.slice ae r.length ag]) w (eN B H seen (gB H.eof F rows ln r) w) (eM B H (gB H.eof F rows ln r) w):=by
 obtain ⟨V,R,J,ai,ar⟩:=A
 have hTs:=hT.bK
 have bl:(r.getD 1 []).length≤70000:=hrl _ (ee (by omega))
 have hlo:=ai.lo
 have hbl:=ar.len
 refine fk Tryz.func63 rfl Tryz.ntmps63 rfl ?_
 refine sq (fun a7 aM=>rg rfl (p (az (.pointer (some ⟨H.rb,0,none⟩)) rfl) (p (az (.slice ae r.length ag) rfl) (p (aK bO rfl rfl (by omega) (ao.ok (hTs.2) (bL (by omega)))) (p (ld bW rfl (bh.get (i:=1) hTs.2 (by omega))) (eP rfl (bE nA (oh H.rb ln (r.getD 1 []) 256 w ai.cE (by omega) (by omega)) rfl fun v10 w10 hR10=> ?_) (fun c w' s ab J=>by obtain ⟨e,he,h,h2⟩:=s; exact ⟨ln,e,Fp he,h,Wk.mw h2⟩)))))))
 obtain ⟨n,hnx,rfl,ah⟩:=hR10
 have hnl:=qG hnx
 refine p mv (nl (tn (aM _ _ (aw (lp (fun aq ac wI=> ∃ (i:Nat) (xs:List (Tx×Tx)) (rows':List Rw) (aa:Nat) (j:db) (R':dM),(i≤n)∧(ej [fq] ij H.eof (group [fq] ij H.eof n rows) xs (n - i) rows')∧(xs.length=i)∧(bH wI B H.fb H.mc {F with bM:=F.bM++xs} j)∧(bo wI B H F R' rows' aa seen)∧(fV {F with bM:=F.bM++xs} rows' seen)∧(cV B H w wI)∧(ac 0= .pointer (some ⟨H.rb,0,none⟩))∧(ac 10= .int .i64 (n:Nat))∧(ac 11= .int .i64 (i:Nat))∧(n - i=aq)) _ ⟨0,[],rows,ln,V,R,(by omega),ej.start,rfl,((by rw [List.append_nil]; exact J.wk ah)),(ai.wk ah),((by rw [List.append_nil]; exact ar)),(Wk.mw ah),rfl,rfl,rfl,rfl⟩ ?_)))))
 rintro aq ac wI ⟨i,xs,rows',aa,j,R',hi,C,hxl,av,U,O,hMw,a3,a4,a5,rfl⟩
 refine fx 0 a3 (fx 10 a4 (fx 11 a5 (sq (fun a8 aN=>rg rfl (p (lt rfl rfl) (nl (tn (aN _ _ (sq (fun a9 aO=>cd rfl (fun aZ=> ?_) (fun aZ=> ?_)))))))))))
 refine aE (tn (aO _ _ (sq (fun ba aP=>aw (sq (fun bb aQ=>rg rfl (p (az (.pointer (some ⟨H.rb,0,none⟩)) rfl) (e (g7 (L:= [str fq]) cw rfl rfl rfl rfl fun aG w14 hb14 aT aI=> ?_)))))))))
 have hE14:Wk wI w14:=aT.md
 have hMw14:=hMw.trans (Wk.mw hE14)
 refine eP rfl (bE pB (qn B H F R' rows' aa seen [fq] aG 1 _ _ w14 (U.wk hE14) (Tg.qI aI rfl) rfl (by decide) (fun q a2=>(O.row q a2).2.1)) rfl fun br w15 aV=> ?_) (fun c w' s ab J=>by
  obtain ⟨h1,h2⟩:=s
  have hm:=hMw14.trans (cV.rb (U.wk hE14) h2)
  rcases h1 with ⟨rfl,h3⟩ | ⟨M,I,rest,rfl,h4,h3⟩
  exact ⟨_,_,mR hnx (C.ends (by omega)),h3,hm⟩
  exact ⟨_,_,mR hnx (C.other (by omega) h4),h3,hm⟩)
 obtain ⟨M,I,rest,rfl,Z,⟨aF,hR2⟩,hT15,hM15⟩:=aV
 obtain ⟨bf,nv,rfl⟩:=hT15.slice
 have hF2:=(av.wk hE14).rb (U.wk hE14) hM15
 have hMw2:=hMw14.trans (cV.rb (U.wk hE14) hM15)
 have hrow:I≠[]∧I.length≤70000∧∀ x∈I,x.length≤70000:=O.row (M,I) (by simp)
 have hB2:=fV.lu O
 have hT15s:=hT15.bK
 have hbl2:=O.len
 simp only [List.length_cons,List.length_append] at hbl2
 refine p au (nl (tn (aQ _ _ (sq (fun bc aR=>rg rfl (p (az (.pointer (some ⟨H.rb,0,none⟩)) rfl) (p mv (p (bp ea rfl rfl) ?_))))))))
 refine p (bu rfl rfl) (eP rfl (bE dS (dX H.rb M _ 111 w15 hR2.cE (by decide)) rfl fun v20 w20 aW=> ?_) (fun c w' s ab J=>⟨_,_,mR hnx (C.bad (by omega) Z (Fi (by have :=of_decide_eq_false s.2.1; omega))),s.1,by rw [s.2.2]; exact hMw2⟩))
 obtain ⟨rfl,a6,rfl⟩:=aW
 have am:I.length=3:=by have :=of_decide_eq_true a6; omega
 have hl1:=hrow.2.2 _ (ee (d:= []) (i:=1) (by omega))
 have hl2:=hrow.2.2 _ (ee (d:= []) (i:=2) (by omega))
 refine nl (tn (aR _ _ (sq (fun bd aS=>rg rfl (p (az (.pointer (some ⟨H.rb,0,none⟩)) rfl) (p mv (p (aK bO rfl rfl (by omega) (ao.ok (hT15s.2) (bL (by omega)))) (p (ld bW rfl (bh.get (i:=1) hT15s.2 (by omega))) ?_))))))))
 refine eP rfl (bE sK (vz H.rb M (I.getD 1 []) w20 hR2.cE (by omega)) rfl fun bs w25 aX=> ?_) (fun c w' s ab J=>by obtain ⟨e,he,h,h2⟩:=s; exact ⟨_,_,mR hnx (C.bad (by omega) Z (Fj am he)),h,hMw2.trans (Wk.mw h2)⟩)
 obtain ⟨E,aC,rfl,hE25⟩:=aX
 have hF3:=hF2.wk hE25
 have hR3:=hR2.wk hE25
 have hT3:=hT15.wk hE25
 have hMw3:=hMw2.trans (Wk.mw hE25)
 have ak:¬(j.v9.ownBlock=some H.rb):=cG hF3.o9 hR3.cells (by decide)
 have a0:¬(j.v9.ownBlock=some H.fb):=cG hF3.o9 hF3.cells (by decide)
 refine p au (nl (tn (aS _ _ ?_)))
 have a:(fun w'=>Md (fun k=>j.v9.ownBlock=some k) w25 w') w25.drew:=(Md.refl _ _).drew
 refine dj (fun w'=>Md (fun k=>j.v9.ownBlock=some k) w25 w') 24 rfl wide a (bq 0 rfl (by kernel_rfl) (fun _=>az (.pointer (some ⟨H.rb,0,none⟩)) rfl) (fun _=>a) (bq 1 rfl (by kernel_rfl) (fun _=>nc rfl) (fun _=>a) (bq 2 rfl (by kernel_rfl) (fun _=>fa dP rfl) (fun _=>a) (fH 3 rfl (by kernel_rfl) (fun w' A=>ld dC rfl (Md.aA A ((aU hR3.cells).trans rfl) ak)) a (bq 4 rfl (by kernel_rfl) (fun _=>az (.pointer (some ⟨H.rb,0,none⟩)) rfl) (fun _=>a) (bq 5 rfl (by kernel_rfl) (fun _=>nc rfl) (fun _=>a) (bq 6 rfl (by kernel_rfl) (fun _=>fa dP rfl) (fun _=>a) ?_)))))))
 refine fH 7 rfl (by kernel_rfl) (fun w' A=>ld dC rfl (Md.aA A ((aU hR3.cells).trans rfl) ak)) a (bq 8 rfl (by kernel_rfl) (fun _=>nc rfl) (fun _=>a) (bq 9 rfl (by kernel_rfl) (fun _=>fa dF rfl) (fun _=>a) (bq 10 rfl (by kernel_rfl) (fun _=>fa nX rfl) (fun _=>a) (fH 11 rfl (by kernel_rfl) (fun w' A=>ld rK rfl (Md.aA A ((aU hF3.cells).trans rfl) a0)) a (bq 12 rfl (by kernel_rfl) (fun _=>mv) (fun _=>a) (bq 13 rfl (by kernel_rfl) (fun _=>az (.pointer (some ⟨H.rb,0,none⟩)) rfl) (fun _=>a) (bq 14 rfl (by kernel_rfl) (fun _=>mv) (fun _=>a) ?_)))))))
 refine bq 15 rfl (by kernel_rfl) (fun _=>aK bO rfl rfl (by omega) (ao.ok (hT3.bK.2) (bL (by omega)))) (fun _=>a) (fH 16 rfl (by kernel_rfl) (fun w' A=>ld bW rfl (bh.get (i:=2) (hT3.md A (fw hF3.o9 (by decide))).bK.2 (by omega))) a (uH 17 rfl (by kernel_rfl) rfl (bE r6 (vv H.rb M (I.getD 2 []) w25.drew (Md.aA a hR3.cE ak) (by omega)) rfl fun bt w43 aY=> ?_) (fun c w' s ab J=>by obtain ⟨e,he,h,h2⟩:=s; exact ⟨_,_,mR hnx (C.bad (by omega) Z (Fk am aC he)),h,hMw3.trans (Wk.mw (e5 h2))⟩)))
 obtain ⟨G,a1,rfl,hE43⟩:=aY
 have hE43:=e5 hE43
 have aj:(fun w'=>Md (fun k=>j.v9.ownBlock=some k) w25 w') w43:=Md.mono hE43 (fun _ _ h=>h.elim)
 refine ⟨aj,?_⟩
 refine bq 18 rfl (by kernel_rfl) (fun _=>cz (ps:= [(0,str E),(1,str G)]) (L:= [str E,str G]) Gh rfl (rfl)) (fun _=>aj) (fR 19 rfl (by kernel_rfl) (kG oD rfl rfl rfl fun bg w45 bi ax aJ=> ?_))
 have hE45:=hE43.trans ax.md
 have hF4:=hF3.wk hE45
 have hR4:=hR3.wk hE45
 have ay:(fun w'=>Md (fun k=>j.v9.ownBlock=some k) w25 w') w45:=aj.trans' ax.md (fun _ _ h=>h.elim)
 refine ⟨ay,?_⟩
 refine fR 20 rfl (by kernel_rfl) (ap oD (hF4.o9) rfl (by have :=(Array.getElem?_eq_some_iff.1 hR4.cells).1; omega) rfl (ao.dz aJ) (rfl) (rfl) (by simp only [List.length_append]; omega) (by simp only [List.length_append]; omega) fun an w46 aB hM46 bm bk=> ?_)
 have hMw5:=(hMw3.trans (Wk.mw hE45)).trans (Mw.of hM46 (TF.own hF4.o9 (by decide)) (fun k hk=>(c4 hF4.o9 hk).1))
 have hR5:=bo.own hR4 hF4.o9 hM46 (by decide)
 have hc5:=hM46.aw hF4.cells (cG hF4.o9 hF4.cells (by decide))
 have ho46x:World.ownsRow w46 B 163 2 an ((F.bM++xs)++ [(E,G)]).length (iK ((F.bM++xs)++ [(E,G)])):=by rw [show iK ((F.bM++xs)++ [(E,G)])=iK (F.bM++xs)++ [str E,str G] from by simp [iK],List.length_append]; exact aB
 have Y:(fun w'=>Md (fun k=>j.v9.ownBlock=some k) w25 w') w46:=ay.trans' hM46 (fun _ _ h=>h)
 refine ⟨Y,?_⟩
 refine bq 21 rfl (by kernel_rfl) (fun _=>nc rfl) (fun _=>Y) (bq 22 rfl (by kernel_rfl) (fun _=>fa dF rfl) (fun _=>Y) (bq 23 rfl (by kernel_rfl) (fun _=>fa nX rfl) (fun _=>Y) (bP 24 rfl (by kernel_rfl) (by kernel_rfl) (da sX rfl rfl (v:=an) (dG aB) hc5 (by show _ < 14; omega) fun w9 hM9 aL=> ?_))))
 refine di (by kernel_rfl) ?_
 exact bn (tn (aP _ _ (rg rfl (p (ad rfl rfl (bC (by omega))) (p mv (nl (tn (⟨_,by omega,i+1,xs++ [(E,G)],rest,M,{j with v9:=an},aF,(by omega),((by rw [show n - (i+1)=n - i - 1 by omega]; exact C.step (by omega) Z (Fl am aC a1))),((by rw [List.length_append,hxl]; rfl)),((by rw [← List.append_assoc]; exact bH.x4 (x:=(E,G)) hF4 hM46 ho46x hM9 aL)),(bo.nR hR5 hc5 hM9),(⟨by simp only [List.length_append,List.length_singleton]; omega,hB2.sl,hB2.row,hB2.kd,hB2.al⟩),(hMw5.trans (Mw.of hM9 (TF.eq (c6 hc5) (by decide)) (fun k hk=>hk ▸ hF4.lo.1))),rfl,rfl,rfl,rfl⟩))))))))
 refine ext (te _ (te _ (be (eW ?_))))
 refine f0 rfl ?_
 rw [show n - i=0 by omega] at C
 exact ⟨rfl,_,rows',aa,Fq hnx C.done,⟨j,R',av,U.congr rfl (fun _=>rfl),O⟩,hMw⟩
theorem xO (B:Nat) (H:bj) (F:aH) (rows:List Rw) (ln:Nat) (seen:List Tx) (r:List Tx) (aP:Nat) (an:Option Addr) (aq:Nat) (w:World) (j:St w B H F rows ln seen) (hT:Tg w aP 9 r.length (.slice an r.length aq) (r.map str)) (hr:r.length=2) (hrl:∀ x∈r,x.length≤70000):
 cW Tryz.prog 64 (List.toArray [.pointer (some ⟨H.rb,0,none⟩),.slice an r.length aq]) w (eN B H seen (ga H.eof F seen rows ln r) w) (eM B H (ga H.eof F seen rows ln r) w):=by
 obtain ⟨V,R,U,J,ag⟩:=j
 have hTs:=hT.bK
 have bV:(r.getD 1 []).length≤70000:=hrl _ (ee (by omega))
 have hlo:=J.lo
 have hbl:=ag.len
 obtain ⟨bX,aL,aM⟩:=J.sm
 have hcp:=List.count_le_length (a:=e0) (l:=seen)
 have hcs:=List.count_le_length (a:=bU) (l:=seen)
 have hsl:=ag.sl
 refine fk Tryz.func64 rfl Tryz.ntmps64 rfl ?_
 refine sq (fun bz aX=> ?_)
 have s:(fun w'=>Wk w w') w.drew:=(Md.refl _ _).drew
 refine bI (fun w'=>Wk w w') rfl wide s (hp 0 rfl (by kernel_rfl) (fun _ _=>az (.pointer (some ⟨H.rb,0,none⟩)) rfl) s (hp 1 rfl (by kernel_rfl) (fun _ _=>az (.pointer (some ⟨H.rb,0,none⟩)) rfl) s (hp 2 rfl (by kernel_rfl) (fun _ _=>nc rfl) s (hp 3 rfl (by kernel_rfl) (fun _ _=>fa lD rfl) s (hp 4 rfl (by kernel_rfl) (fun w' j=>ld k8 rfl (Wk.aA j ((aU J.cells).trans rfl))) s (hp 5 rfl (by kernel_rfl) (fun w' j=>jf ko js eu (bl.md (aL) j id) rfl rfl (⟨_,rfl⟩) (aM e0)) s (hp 6 rfl (by kernel_rfl) (fun _ _=>az (.pointer (some ⟨H.rb,0,none⟩)) rfl) s ?_)))))))
 refine hp 7 rfl (by kernel_rfl) (fun _ _=>nc rfl) s (hp 8 rfl (by kernel_rfl) (fun _ _=>fa lD rfl) s (hp 9 rfl (by kernel_rfl) (fun w' j=>ld k8 rfl (Wk.aA j ((aU J.cells).trans rfl))) s (hp 10 rfl (by kernel_rfl) (fun w' j=>jf ko js eu (bl.md (aL) j id) rfl rfl (⟨_,rfl⟩) (aM bU)) s (hp 11 rfl (by kernel_rfl) (fun _ _=>bd ((seen.count e0+seen.count bU:Nat):Int) rfl rfl (aO (by omega) (by omega))) s (hp 12 rfl (by kernel_rfl) (fun _ _=>bu rfl rfl) s ?_)))))
 refine lE 13 rfl (by kernel_rfl) rfl (bE dS (dX H.rb ln _ 113 w.drew (Wk.aA s J.cE) (by decide)) rfl fun v20 w20 a9=> ?_) (fun c w' A ak U=>⟨ln,113,xP (Classical.byContradiction fun h2=>by
  have h1:=List.count_eq_zero.2 (fun h=>h2 (Or.inl h))
  have h3:=List.count_eq_zero.2 (fun h=>h2 (Or.inr h))
  exact of_decide_eq_false A.2.1 (by omega)),A.1,by rw [A.2.2]; exact Wk.mw s⟩)
 obtain ⟨rfl,bw,aN⟩:=a9
 have ah:Wk w w20:=by rw [aN]; exact (Md.refl _ _).drew
 have Z:¬(e0∈seen∨bU∈seen):=by
  have h0:=of_decide_eq_true bw
  rintro (h | h)
  have :=List.count_pos_iff.2 h; omega
  have :=List.count_pos_iff.2 h; omega
 have hR0:=J.wk ah
 have hT0s:=(hT.wk ah).bK
 have bg:(fun w'=>Wk w w') w20:=by rw [aN]; exact s
 refine ⟨bg,?_⟩
 refine hn (by kernel_rfl) (tn (aX _ _ (sq (fun bA aY=>rg rfl (p (az (.pointer (some ⟨H.rb,0,none⟩)) rfl) (p (az (.slice an r.length aq) rfl) (p (aK bO rfl rfl (by omega) (ao.ok (hT0s.2) (bL (by omega)))) (p (ld bW rfl (bh.get (i:=1) hT0s.2 (by omega))) ?_))))))))
 refine eP rfl (bE nA (oh H.rb ln (r.getD 1 []) 1024 w20 hR0.cE (by omega) (by omega)) rfl fun bZ w25 ba=> ?_) (fun c w' A ak U=>by obtain ⟨e,he,h,h2⟩:=A; exact ⟨ln,e,xQ Z he,h,Wk.mw (ah.trans h2)⟩)
 obtain ⟨n,hnx,rfl,hE25⟩:=ba
 have hnl:=qG hnx
 have hE25:=ah.trans hE25
 refine p mv (nl (tn (aY _ _ (aw (lp (fun aB am wI=> ∃ (i:Nat) (xs:List (List Nat)) (rows':List Rw) (aj:Nat) (E:db) (R':dM),(i≤n)∧(ej [eY] (iu F.kind) H.eof (group [eY] (iu F.kind) H.eof n rows) xs (n - i) rows')∧(xs.length=i)∧(bH wI B H.fb H.mc {F with aliases:=F.aliases++xs} E)∧(bo wI B H F R' rows' aj seen)∧(fV {F with aliases:=F.aliases++xs} rows' seen)∧(cV B H w wI)∧(am 0= .pointer (some ⟨H.rb,0,none⟩))∧(am 25= .int .i64 (n:Nat))∧(am 26= .int .i64 (i:Nat))∧(n - i=aB)) _ ⟨0,[],rows,ln,V,R,(by omega),ej.start,rfl,((by rw [List.append_nil]; exact U.wk hE25)),(J.wk hE25),((by rw [List.append_nil]; exact ag)),(Wk.mw hE25),rfl,rfl,rfl,rfl⟩ ?_)))))
 rintro aB am wI ⟨i,xs,rows',aj,E,R',hi,M,hxl,aC,ab,O,hMw,bs,bt,bv,rfl⟩
 refine fx 0 bs (fx 25 bt (fx 26 bv (sq (fun bB aZ=>rg rfl (p (lt rfl rfl) (nl (tn (aZ _ _ (sq (fun bD a0=>cd rfl (fun bi=> ?_) (fun bi=> ?_)))))))))))
 refine aE (tn (a0 _ _ (sq (fun bF a1=>aw (sq (fun bG a2=>rg rfl (p (az (.pointer (some ⟨H.rb,0,none⟩)) rfl) (e (g7 (L:= [str eY]) cw rfl rfl rfl rfl fun aR w14 hb14 a6 aS=> ?_)))))))))
 have hE14:Wk wI w14:=a6.md
 have hMw14:=hMw.trans (Wk.mw hE14)
 refine eP rfl (bE pB (qn B H F R' rows' aj seen [eY] aR 1 _ _ w14 (ab.wk hE14) (Tg.qI aS rfl) rfl (by decide) (fun q br=>(O.row q br).2.1)) rfl fun bY w15 a8=> ?_) (fun c w' A ak U=>by
  obtain ⟨h1,h2⟩:=A
  have hm:=hMw14.trans (cV.rb (ab.wk hE14) h2)
  rcases h1 with ⟨rfl,h3⟩ | ⟨ac,I,rest,rfl,h4,h3⟩
  exact ⟨_,_,nk Z hnx (M.ends (by omega)),h3,hm⟩
  exact ⟨_,_,nk Z hnx (M.other (by omega) h4),h3,hm⟩)
 obtain ⟨ac,I,rest,rfl,av,⟨aQ,hR2⟩,hT15,hM15⟩:=a8
 obtain ⟨bQ,nv,rfl⟩:=hT15.slice
 have hF2:=(aC.wk hE14).rb (ab.wk hE14) hM15
 have hMw2:=hMw14.trans (cV.rb (ab.wk hE14) hM15)
 have hrow:I≠[]∧I.length≤70000∧∀ x∈I,x.length≤70000:=O.row (ac,I) (by simp)
 have hB2:=fV.lu O
 have hT15s:=hT15.bK
 have hbl2:=O.len
 simp only [List.length_cons,List.length_append] at hbl2
 refine p au (nl (tn (a2 _ _ (sq (fun bJ a3=>rg rfl (p (az (.pointer (some ⟨H.rb,0,none⟩)) rfl) (p mv (p (bp ea rfl rfl) ?_))))))))
 refine p (bu rfl rfl) (eP rfl (bE dS (dX H.rb ac _ 111 w15 hR2.cE (by decide)) rfl fun b0 w35 bb=> ?_) (fun c w' A ak U=>⟨_,_,nk Z hnx (M.bad (by omega) av (xL (by have :=of_decide_eq_false A.2.1; omega))),A.1,by rw [A.2.2]; exact hMw2⟩))
 obtain ⟨rfl,bx,rfl⟩:=bb
 have aI:I.length=2:=by have :=of_decide_eq_true bx; omega
 have hl1:=hrow.2.2 _ (ee (d:= []) (i:=1) (by omega))
 refine nl (tn (a3 _ _ (sq (fun bM a4=> ?_))))
 have G:(fun w'=>Wk w35 w') w35.drew:=(Md.refl _ _).drew
 refine bI (fun w'=>Wk w35 w') rfl wide G (hp 0 rfl (by kernel_rfl) (fun _ _=>az (.pointer (some ⟨H.rb,0,none⟩)) rfl) G (hp 1 rfl (by kernel_rfl) (fun _ _=>nc rfl) G (hp 2 rfl (by kernel_rfl) (fun _ _=>fa dP rfl) G (hp 3 rfl (by kernel_rfl) (fun w' j=>ld dC rfl (Wk.aA j ((aU hR2.cells).trans rfl))) G (hp 4 rfl (by kernel_rfl) (fun _ _=>nc rfl) G (hp 5 rfl (by kernel_rfl) (fun _ _=>fa dF rfl) G (hp 6 rfl (by kernel_rfl) (fun _ _=>fa lB rfl) G ?_)))))))
 refine hp 7 rfl (by kernel_rfl) (fun w' j=>ld dN rfl (Wk.aA j ((aU hF2.cells).trans rfl))) G (hp 8 rfl (by kernel_rfl) (fun _ _=>mv) G (hp 9 rfl (by kernel_rfl) (fun _ _=>aK bO rfl rfl (by omega) (ao.ok (hT15s.2) (bL (by omega)))) G (hp 10 rfl (by kernel_rfl) (fun w' j=>ld bW rfl (Wk.aA j (bh.get (i:=1) hT15s.2 (by omega)))) G (he 11 rfl (by kernel_rfl) (cl r7 (tY F.kind (I.getD 1 []) _ ag.kd (by omega)) rfl fun b1 w48 bc=> ?_)))))
 obtain ⟨⟨ae,rfl,ar⟩,hE48⟩:=bc
 have hE48:=e5 hE48
 have hF3:=hF2.wk hE48
 have hR3:=hR2.wk hE48
 have hMw3:=hMw2.trans (Wk.mw hE48)
 have aF:¬(E.v10.ownBlock=some H.rb):=cG hF3.eT hR3.cells (by decide)
 have bk:¬(E.v10.ownBlock=some H.fb):=cG hF3.eT hF3.cells (by decide)
 have aW:B≤w35.heap.size:=by have :=(Array.getElem?_eq_some_iff.1 hR2.cells).1; omega
 have Y:(fun w'=>Wk w35 w') w48:=hE48
 refine ⟨Y,?_⟩
 refine hp 12 rfl (by kernel_rfl) (fun _ _=>mv) Y (hp 13 rfl (by kernel_rfl) (fun _ _=>xt rfl rfl) Y (hp 14 rfl (by kernel_rfl) (fun _ _=>xt rfl rfl) Y (hp 15 rfl (by kernel_rfl) (fun _ _=>au) Y (hp 16 rfl (by kernel_rfl) (fun _ _=>au) Y (hn (by kernel_rfl) (tn (a4 _ _ (sq (fun bN a5=> ?_)))))))))
 refine rg rfl (p (az (.pointer (some ⟨H.rb,0,none⟩)) rfl) (p mv (eP rfl (bE iW (jg H.rb ac ((dx F.kind (I.getD 1 [])).2:Nat) w48 hR3.cE) rfl fun b2 w53 bf=> ?_) (fun c w' A ak U=>⟨_,_,nk Z hnx (M.bad (by omega) av (by rw [rM aI]; exact tU (by have :=A.2.1; omega))),A.1,by rw [A.2.2]; exact hMw3⟩))))
 obtain ⟨rfl,ax,rfl⟩:=bf
 have ax:(dx F.kind (I.getD 1 [])).2=0:=by omega
 have hfo:=tT ax
 refine nl (tn (a5 _ _ ?_))
 have C:(fun w'=>Md (fun k=>E.v10.ownBlock=some k) w53 w') w53.drew:=(Md.refl _ _).drew
 refine dj (fun w'=>Md (fun k=>E.v10.ownBlock=some k) w53 w') 18 rfl wide C (bq 0 rfl (by kernel_rfl) (fun _=>az (.pointer (some ⟨H.rb,0,none⟩)) rfl) (fun _=>C) (bq 1 rfl (by kernel_rfl) (fun _=>nc rfl) (fun _=>C) (bq 2 rfl (by kernel_rfl) (fun _=>fa dP rfl) (fun _=>C) (fH 3 rfl (by kernel_rfl) (fun w' j=>ld dC rfl (Md.aA j ((aU hR3.cells).trans rfl) aF)) C (bq 4 rfl (by kernel_rfl) (fun _=>az (.pointer (some ⟨H.rb,0,none⟩)) rfl) (fun _=>C) (bq 5 rfl (by kernel_rfl) (fun _=>nc rfl) (fun _=>C) (bq 6 rfl (by kernel_rfl) (fun _=>fa dP rfl) (fun _=>C) ?_)))))))
 refine fH 7 rfl (by kernel_rfl) (fun w' j=>ld dC rfl (Md.aA j ((aU hR3.cells).trans rfl) aF)) C (bq 8 rfl (by kernel_rfl) (fun _=>nc rfl) (fun _=>C) (bq 9 rfl (by kernel_rfl) (fun _=>fa dF rfl) (fun _=>C) (bq 10 rfl (by kernel_rfl) (fun _=>fa jM rfl) (fun _=>C) (fH 11 rfl (by kernel_rfl) (fun w' j=>ld kB rfl (Md.aA j ((aU hF3.cells).trans rfl) bk)) C (bq 12 rfl (by kernel_rfl) (fun _=>mv) (fun _=>C) (fR 13 rfl (by kernel_rfl) (gq oE rfl (dG ar) fun bR w67 bS a7 aT=> ?_)))))))
 have hE67:=e5 a7.md
 have hF4:=hF3.wk hE67
 have hR4:=hR3.wk hE67
 have hTx:=(Tg.gj (aJ ar hE67)).mono aW
 have aD:(fun w'=>Md (fun k=>E.v10.ownBlock=some k) w53 w') w67:=Md.mono hE67 (fun _ _ h=>h.elim)
 refine ⟨aD,?_⟩
 refine fR 14 rfl (by kernel_rfl) (ap oE (hF4.eT) rfl (by have :=(Array.getElem?_eq_some_iff.1 hR4.cells).1; omega) rfl (ao.dz aT) (rfl) (by show List.all [ae] Value.oneCell'=true; simp only [List.all_cons,List.all_nil,dG ar,Bool.and_self]) (by simp only [List.length_append]; omega) (by simp only [List.length_append]; omega) fun ay w68 aG aa hz68 bT=> ?_)
 have hMw5:=(hMw3.trans (Wk.mw hE67)).trans (Mw.of aa (TF.own hF4.eT (by decide)) (fun k hk=>(c4 hF4.eT hk).1))
 have hR5:=bo.own hR4 hF4.eT aa (by decide)
 have hc5:=aa.aw hF4.cells (cG hF4.eT hF4.cells (by decide))
 have bm:World.ownsRow w68 B 54 1 ay ((F.aliases++xs)++ [(dx F.kind (I.getD 1 [])).1]).length (E.sa++ [ae]):=by rw [List.length_append]; exact aG
 have ai:(fun w'=>Md (fun k=>E.v10.ownBlock=some k) w53 w') w68:=aD.trans' aa (fun _ _ h=>h)
 refine ⟨ai,?_⟩
 refine bq 15 rfl (by kernel_rfl) (fun _=>nc rfl) (fun _=>ai) (bq 16 rfl (by kernel_rfl) (fun _=>fa dF rfl) (fun _=>ai) (bq 17 rfl (by kernel_rfl) (fun _=>fa jM rfl) (fun _=>ai) (bP 18 rfl (by kernel_rfl) (by kernel_rfl) (da sY rfl rfl (v:=ay) (dG aG) hc5 (by show _ < 14; omega) fun w9 hM9 aV=> ?_))))
 refine di (by kernel_rfl) ?_
 exact bn (tn (a1 _ _ (rg rfl (p (ad rfl rfl (bC (by omega))) (p mv (nl (tn (⟨_,by omega,i+1,xs++ [(dx F.kind (I.getD 1 [])).1],rest,ac,{E with v10:=ay,sa:=E.sa++ [ae]},aQ,(by omega),((by rw [show n - (i+1)=n - i - 1 by omega]; exact M.step (by omega) av (by rw [rM aI]; exact tW ax))),((by rw [List.length_append,hxl]; rfl)),((by rw [← List.append_assoc]; exact bH.xY (x:=(dx F.kind (I.getD 1 [])).1) (vx:=ae) hF4 hTx aa bm hM9 aV)),(bo.nR hR5 hc5 hM9),(⟨by simp only [List.length_append,List.length_singleton]; omega,hB2.sl,hB2.row,hB2.kd,(by intro l hl; rw [← List.append_assoc] at hl; rcases List.mem_append.1 hl with hl | hl; exact O.al l hl; rw [List.mem_singleton.1 hl]; exact hfo)⟩),(hMw5.trans (Mw.of hM9 (TF.eq (c6 hc5) (by decide)) (fun k hk=>hk ▸ hF4.lo.1))),rfl,rfl,rfl,rfl⟩))))))))
 refine ext (te _ (te _ (be (eW ?_))))
 refine f0 rfl ?_
 rw [show n - i=0 by omega] at M
 exact ⟨rfl,_,rows',aj,xR Z hnx M.done,⟨E,R',aC,ab.congr rfl (fun _=>rfl),O⟩,hMw⟩
end Go.Hb.iP
end
section
set_option maxRecDepth 20000
set_option maxHeartbeats 1000000
namespace Go.Hb.gX
open Go.Proofs
open Go.Hb.eK Go.Hb.fg Go.Hb.jt Go.Hb.fz Go.Hb.iP
def Nx (F:aH):Prop :=(∀ l∈F.aliases,l.length≤64)∧∀ q∈F.rules,q.next.length≤64
theorem qg {α:Type} {hd:List Tx} {rd:Nat→List Tx→Except Nat α} {eof:Nat} :∀ (n:Nat) (rows:List Rw) (r:List α×List Rw),group hd rd eof n rows= .ok r→∀ x∈r.1,∃ ln row,rd ln row= .ok x:=by
 intro n
 induction n with
 | zero=>intro rows r h; simp only [group,Except.ok.injEq] at h; subst h; intro x a; cases a
 | succ n ih=>
   intro rows r h
   cases rows with
   | nil=>simp [group] at h
   | cons q rows=>
     obtain ⟨ln,row⟩:=q
     simp only [group] at h
     split at h
     · cases h
     · cases hr:rd ln row with
       | error e=>rw [hr] at h; cases h
       | ok y=>
         rw [hr] at h
         simp only at h
         cases hg:group hd rd eof n rows with
         | error e=>rw [hg] at h; cases h
         | ok c=>
           rw [hg] at h
           simp only [Except.ok.injEq] at h
           subst h
           intro x a
           rcases List.mem_cons.1 a with a | a
           · exact ⟨ln,row,by rw [a]; exact hr⟩
           · exact ih rows c hg x a
theorem tV {kind:Nat} {s:Tx} {l:List Nat} (h:h8 kind s= .ok l):l.length≤64:=by
 unfold h8 at h
 split at h
 · cases h
 · rename_i h0
   cases h
   exact (tT (Classical.not_not.1 h0)).1
theorem xM {kind ln:Nat} {row:List Tx} {l:List Nat} (h:iu kind ln row= .ok l):l.length≤64:=by
 unfold iu at h
 split at h
 · cases h
 · exact tV h
theorem pZ {kind:Nat} {al:List (List Nat)} {s:Tx} {l:List Nat} (hal:∀ l∈al,l.length≤64) (h:dV kind al s= .ok l):l.length≤64:=by
 unfold dV at h
 split at h
 · exact tV h
 · split at h
   · cases h
   · split at h
     · cases h
     · cases h
       rename_i n _ _
       rw [List.getD_eq_getElem?_getD]
       cases hg:al[n - 1]? with
       | none=>simp
       | some x=>exact hal x (List.mem_of_getElem? hg)
theorem FH {kind ln:Nat} {al:List (List Nat)} {c:c7} {row:List Tx} {q:eO} (hal:∀ l∈al,l.length≤64) (h:gQ kind al c ln row= .ok q):q.next.length≤64:=by
 unfold gQ at h
 split at h
 · cases h
 · split at h
   · cases h
   · split at h
     · cases h
     · split at h
       · cases h
       · rename_i nx hnx
         split at h
         · cases h
         · cases h
           unfold jh at hnx
           split at hnx
           · split at hnx
             · cases hnx
             · exact pZ hal hnx
           · cases hnx; simp
theorem qk {eof ln:Nat} {F F':aH} {hs:List Tx} {rows rows':List Rw} {row:List Tx} (h:Nx F) (a:bm eof F hs rows ln row= .ok (F',rows')):Nx F':=by
 unfold bm at a
 split at a
 · unfold fU at a
   split at a
   · cases a
   · cases a; exact h
 · split at a
   · unfold gy at a
     split at a
     · cases a
     · split at a
       · cases a
       · cases a; exact h
   · split at a
     · unfold jk at a
       split at a
       · cases a
       · cases a; exact h
     · split at a
       · unfold jl at a
         split at a
         · cases a
         · cases a; exact h
       · split at a
         · unfold gA at a
           split at a
           · cases a
           · split at a
             · cases a
             · cases a; exact h
         · split at a
           · unfold gB at a
             split at a
             · cases a
             · split at a
               · cases a
               · cases a; exact h
           · split at a
             · unfold ga at a
               split at a
               · cases a
               · split at a
                 · cases a
                 · split at a
                   · cases a
                   · rename_i r hg
                     cases a
                     refine ⟨fun l hl=> ?_,h.2⟩
                     rcases List.mem_append.1 hl with hl | hl
                     · exact h.1 l hl
                     · obtain ⟨_,_,h2⟩:=qg _ _ _ hg l hl
                       exact xM h2
             · unfold eQ at a
               split at a
               · cases a
               · split at a
                 · cases a
                 · split at a
                   · cases a
                   · split at a
                     · cases a
                     · split at a
                       · cases a
                       · rename_i r hg
                         cases a
                         refine ⟨h.1,fun q c=> ?_⟩
                         rcases List.mem_append.1 c with c | c
                         · exact h.2 q c
                         · obtain ⟨_,_,h2⟩:=qg _ _ _ hg q c
                           exact FH h.1 h2
theorem CL {eof ln:Nat} {F F':aH} {hs:List Tx} {rows rows':List Rw} {row:List Tx} (h0:row.getD 0 []∉dK) (a:bm eof F hs rows ln row= .ok (F',rows')):F'.sp=F.sp:=by
 unfold bm at a
 rw [if_neg h0] at a
 unfold gy jk jl gA gB ga eQ at a
 repeat' split at a
 all_goals first
  | (cases a; done)
  | (cases a; rfl)
theorem uj {eof ln:Nat} {F F':aH} {seen:List Tx} {rows rows':List Rw} {row:List Tx} (h:fC F seen) (c:bm eof F seen rows ln row= .ok (F',rows')):fC F' (seen++ [row.getD 0 []]):=by
 intro k hk i
 rw [List.mem_append,List.mem_singleton] at i
 have j:k∉seen:=fun h=>i (.inl h)
 have p:k≠row.getD 0 []:=fun h=>i (.inr h)
 by_cases h0:row.getD 0 []∈dK
 · unfold bm at c
   rw [if_pos h0] at c
   unfold fU at c
   split at c
   · cases c
   · cases c
     show (F.sp.set (dK.idxOf (row.getD 0 [])) _).getD (dK.idxOf k) 0=0
     rw [List.getD_eq_getElem?_getD,List.getElem?_set,if_neg,← List.getD_eq_getElem?_getD]
     · exact h k hk j
     · intro he
       have hg:∀ a∈dK,dK.getD (dK.idxOf a) []=a:=by decide
       have h1:=hg _ h0
       have h2:=hg _ hk
       rw [he] at h1
       exact p (h2.symm.trans h1)
 · rw [CL h0 c]; exact h k hk j
end Go.Hb.gX
end
section
set_option maxRecDepth 20000
set_option maxHeartbeats 1000000
namespace Go.Hb.kq
open Go.Hb.cU
open Go.Proofs
open Go.Hb.eK Go.Hb.fg Go.Hb.jt Go.Hb.fz Go.Hb.iP Go.Hb.jy Go.Hb.gZ Go.Hb.kt Go.Hb.fJ Go.Hb.k3 Go.Hb.l3 Go.Hb.fY Go.Hb.fX
structure iQ (w:World) (B fb:Nat) (mc:Nat) (F:aH) (V:db):Prop where
 cells:w.heap[fb]? =some (.cells (jb F V mc).toArray 89 (0,0))
 o9:World.ownsRow w B 163 2 V.v9 F.bM.length (iK F.bM)
 eT:World.ownsRow w B 54 1 V.v10 F.aliases.length V.sa
 al:bN w B 71 V.sa F.aliases
 eh:World.ownsRow w B 157 5 V.v11 F.a8.length (g9 F.a8)
 dQ:World.ownsRow w B 155 7 V.dw F.rules.length (eU (F.rules.zip V.rn))
 nx:bN w B 71 V.rn (F.rules.map (·.next))
 lo:B≤fb∧B≤mc
 fT:F.sp.length=5
theorem iQ.md {G:Nat→Prop} {w w':World} {B fb mc:Nat} {F:aH} {V:db} (h:iQ w B fb mc F V) (hm:Md G w w') {L:List Nat} (hT:TF w L G) (a:(L.contains 91 || L.contains 165 || L.contains 56 || L.contains 73 || L.contains 159 || L.contains 157)=false):iQ w' B fb mc F V:=by
 simp only [Bool.or_eq_false_iff] at a
 obtain ⟨⟨⟨⟨⟨h1,h2⟩,h3⟩,h4⟩,h5⟩,h6⟩:=a
 have hfl:∀ k,G k→∀ cur z,w.heap[k]?≠some (.cells cur 71 z):=fun k hk cur z hg=>hT.no (c6 hg) h4 hk
 exact ⟨hm.g6 hT h.cells h1,cB h.o9 hm hT h2,cB h.eT hm hT h3,h.al.md hm hfl,cB h.eh hm hT h5,cB h.dQ hm hT h6,h.nx.md hm hfl,h.lo,h.fT⟩
theorem iQ.wk {w w':World} {B fb mc:Nat} {F:aH} {V:db} (h:iQ w B fb mc F V) (hm:Wk w w'):iQ w' B fb mc F V:=h.md (L:= []) hm (fun _ hk=>hk.elim) rfl
theorem BC {w:World} {B fb mc:Nat} {F:aH} {V:db} (h:bH w B fb mc F V):iQ w B fb mc F V:=⟨h.cells,h.o9,h.eT,h.al,h.eh,h.dQ,h.nx,h.lo,h.fT⟩
theorem iQ.xZ {w w1 j:World} {B fb mc:Nat} {F:aH} {V:db} {v:Value} {x:c7} {f:Value→Option Value} (h:iQ w B fb mc F V) (hf:bl w.heap mc (jO .u16) f) (s:∀ y:Nat,f (aB y)=((F.a8++ [x]).findIdx? fun c=>decide (c.flag=y)).map fun i:Nat=>Value.int .i64 i) (hm:Md (fun k=>V.v11.ownBlock=some k) w w1) (q:World.ownsRow w1 B 157 5 v (F.a8++ [x]).length (g9 (F.a8++ [x]))) (a:Md (fun k=>k=fb) w1 j) (hc:j.heap[fb]? =some (.cells (jb {F with a8:=F.a8++ [x]} {V with v11:=v} mc).toArray 89 (0,0))):bH j B fb mc {F with a8:=F.a8++ [x]} {V with v11:=v} :=by
 have hT:TF w [159] (fun k=>V.v11.ownBlock=some k):=TF.own h.eh (by decide)
 have hcl:=hm.g6 hT h.cells (by decide)
 have hT2:TF w1 [91] (fun k=>k=fb):=TF.eq (c6 hcl) (by decide)
 have hfl:∀ k,V.v11.ownBlock=some k→∀ cur z,w.heap[k]?≠some (.cells cur 71 z):=fw h.eh (by decide)
 have p:∀ k,k=fb→∀ cur z,w1.heap[k]?≠some (.cells cur 71 z):=eE hcl (by decide)
 have hmt:=cg (hf.md hm (hT.no (cg hf) (by decide)))
 exact ⟨hc,cB (cB h.o9 hm hT (by decide)) a hT2 (by decide),cB (cB h.eT hm hT (by decide)) a hT2 (by decide),(h.al.md hm hfl).md a p,bF q a (fun k hk hf=>cG q hcl (by decide) (hf ▸ hk)),cB (cB h.dQ hm hT (by decide)) a hT2 (by decide),(h.nx.md hm hfl).md a p,⟨f,(hf.md hm (hT.no (cg hf) (by decide))).md a (hT2.no hmt (by decide)),s⟩,h.lo,h.fT⟩
theorem bo.Ec {w w1 c:World} {B:Nat} {H:bj} {F F':aH} {R:dM} {rows:List Rw} {ln:Nat} {seen:List Tx} {v:Value} {q:eO} (h:bo w B H F R rows ln seen) (hm:Md (fun k=>R.vn.ownBlock=some k) w w1) (i:World.ownsRow w1 B 3 1 v (F.rules++ [q]).length ((F.rules++ [q]).map fun r=>Value.int .i64 (r.line:Nat))) (a:Md (fun k=>k=H.rb) w1 c) (hc:c.heap[H.rb]? =some (.cells (mQ H {R with vn:=v} ln).toArray 92 (0,0))) (hr:F'.rules=F.rules++ [q]) (hd:∀ x,cX F' x=cX F x):bo c B H F' {R with vn:=v} rows ln seen:=by
 have hT:TF w [5] (fun k=>R.vn.ownBlock=some k):=TF.own h.on (by decide)
 have hcl:=hm.g6 hT h.cells (by decide)
 have hT2:TF w1 [94] (fun k=>k=H.rb):=TF.eq (c6 hcl) (by decide)
 obtain ⟨f,hf,j⟩:=h.sm
 obtain ⟨g,hg,hg2⟩:=h.tm
 have hf1:=hf.md hm (hT.no (cg hf) (by decide))
 have hg1:=hg.md hm (hT.no (cg hg) (by decide))
 exact ⟨hc,(h.rws.md hm (fw h.on (by decide))).md a (eE hcl (by decide)),(h.rt.md hm (fw h.on (by decide))).md a (eE hcl (by decide)),⟨f,hf1.md a (hT2.no (cg hf1) (by decide)),j⟩,⟨g,hg1.md a (hT2.no (cg hg1) (by decide)),fun x p=>by rw [hd]; exact hg2 x p⟩,by rw [hr]; exact bF i a (fun k hk hf=>cG i hcl (by decide) (hf ▸ hk)),h.lo,h.ne⟩
theorem BJ {cs:List c7} {x:Nat} (h:(dE cs x).isSome=false):cs.findIdx? (fun c=>decide (c.flag=x))=none:=by
 rw [List.findIdx?_eq_none_iff]
 unfold dE at h
 rw [Option.isSome_eq_false_iff,Option.isNone_iff_eq_none,List.find?_eq_none] at h
 intro c hc
 simpa using h c hc
theorem AL {F:aH} {c:c7} (y:Nat):cX {F with a8:=F.a8++ [c]} y=(decide (y=c.flag) || cX F y):=by
 have h1:(dE (F.a8++ [c]) y).isSome=((dE F.a8 y).isSome || decide (y=c.flag)):=by
  unfold dE
  rw [List.find?_append,Option.isSome_or]
  congr 1
  by_cases h:c.flag=y
  · simp [h]
  · simp [h,Ne.symm h]
 unfold cX
 show (decide (y∈F.sp) || (dE (F.a8++ [c]) y).isSome)=_
 rw [h1]
 cases decide (y∈F.sp) <;> cases (dE F.a8 y).isSome <;> cases decide (y=c.flag) <;> rfl
theorem z7 {F:aH} {c:c7} {f:Value→Option Value} (hd:cX F c.flag=false) (hf:∀ x:Nat,f (aB x)=(F.a8.findIdx? fun c=>decide (c.flag=x)).map fun i:Nat=>Value.int .i64 i) (y:Nat):a3 f (aB c.flag) (.int .i64 (F.a8.length:Nat)) (aB y)=((F.a8++ [c]).findIdx? fun c=>decide (c.flag=y)).map fun i:Nat=>Value.int .i64 i:=by
 unfold cX at hd
 rw [Bool.or_eq_false_iff] at hd
 rw [List.findIdx?_append]
 by_cases h:y=c.flag
 · subst h
   rw [mO,BJ hd.2]
   simp
 · rw [lM (fun h2=>h (wz h2)),hf y]
   cases F.a8.findIdx? fun c=>decide (c.flag=y) <;> simp [Ne.symm h]
theorem sN {eof ln e:Nat} {F:aH} {rows:List Rw} {r:List Tx} (h:eX F (r.getD 1 [])= .error e):eQ eof F rows ln r= .error (ln,e):=by unfold eQ; rw [h]
theorem sO {eof ln x:Nat} {F:aH} {rows:List Rw} {r:List Tx} (h:eX F (r.getD 1 [])= .ok x) (h1:r.getD 2 []≠[89]) (h2:r.getD 2 []≠[78]):eQ eof F rows ln r= .error (ln,114):=by unfold eQ; rw [h]; exact if_pos ⟨h1,h2⟩
theorem zI {eof ln x e:Nat} {F:aH} {rows:List Rw} {r:List Tx} (h:eX F (r.getD 1 [])= .ok x) (h1:r.getD 2 []= [89]∨r.getD 2 []= [78]) (h2:cJ (r.getD 3 []) 1024= .error e):eQ eof F rows ln r= .error (ln,e):=by
 unfold eQ; rw [h]; simp only; rw [if_neg (fun h3=>h1.elim h3.1 h3.2),h2]
theorem zJ {eof ln x n:Nat} {F:aH} {rows:List Rw} {r:List Tx} (h:eX F (r.getD 1 [])= .ok x) (h1:r.getD 2 []= [89]∨r.getD 2 []= [78]) (h2:cJ (r.getD 3 []) 1024= .ok n) (h3:1024 < F.rules.length+n):eQ eof F rows ln r= .error (ln,117):=by
 unfold eQ; rw [h]; simp only; rw [if_neg (fun h3=>h1.elim h3.1 h3.2),h2]; simp only; rw [if_pos h3]
theorem pE {eof ln x n:Nat} {F:aH} {rows:List Rw} {r:List Tx} {e:Nat×Nat} (h:eX F (r.getD 1 [])= .ok x) (h1:r.getD 2 []= [89]∨r.getD 2 []= [78]) (h2:cJ (r.getD 3 []) 1024= .ok n) (h3:¬1024 < F.rules.length+n) (h4:group [r.getD 0 [],r.getD 1 []] (gQ F.kind F.aliases (⟨x,(if r.getD 0 []=bU then 2 else 1:Nat),(decide (r.getD 2 []= [89])),F.rules.length,n⟩:c7)) eof n rows= .error e):eQ eof F rows ln r= .error e:=by
 unfold eQ; rw [h]; simp only; rw [if_neg (fun h3=>h1.elim h3.1 h3.2),h2]; simp only; rw [if_neg h3,h4]
theorem zK {eof ln x n:Nat} {F:aH} {rows:List Rw} {r:List Tx} {q:List eO×List Rw} (h:eX F (r.getD 1 [])= .ok x) (h1:r.getD 2 []= [89]∨r.getD 2 []= [78]) (h2:cJ (r.getD 3 []) 1024= .ok n) (h3:¬1024 < F.rules.length+n) (h4:group [r.getD 0 [],r.getD 1 []] (gQ F.kind F.aliases (⟨x,(if r.getD 0 []=bU then 2 else 1:Nat),(decide (r.getD 2 []= [89])),F.rules.length,n⟩:c7)) eof n rows= .ok q):eQ eof F rows ln r= .ok ({F with a8:=F.a8++ [(⟨x,(if r.getD 0 []=bU then 2 else 1:Nat),(decide (r.getD 2 []= [89])),F.rules.length,n⟩:c7)],rules:=F.rules++q.1},q.2):=by
 unfold eQ; rw [h]; simp only; rw [if_neg (fun h3=>h1.elim h3.1 h3.2),h2]; simp only; rw [if_neg h3,h4]
theorem sP (B:Nat) (H:bj) (F:aH) (rows:List Rw) (ln:Nat) (seen:List Tx) (r:List Tx) (bD:Nat) (M:Option Addr) (O:Nat) (w:World) (a:St w B H F rows ln seen) (hT:Tg w bD 9 r.length (.slice M r.length O) (r.map str)) (hr:r.length=4) (hrl:∀ x∈r,x.length≤70000) (d2:F.bM.length+F.aliases.length+F.a8.length+F.rules.length+rows.length < 70000):
 cW Tryz.prog 65 (List.toArray [.pointer (some ⟨H.rb,0,none⟩),.slice M r.length O]) w (eN B H seen (eQ H.eof F rows ln r) w) (eM B H (eQ H.eof F rows ln r) w):=by
 obtain ⟨V,R,I,aa,ak⟩:=a
 have hTs:=hT.bK
 have ea:(r.getD 1 []).length≤70000:=hrl _ (ee (by omega))
 have eb:(r.getD 2 []).length≤70000:=hrl _ (ee (by omega))
 have ec:(r.getD 3 []).length≤70000:=hrl _ (ee (by omega))
 have hlo:=aa.lo
 have hbl:=ak.len
 have hrb0:=(Array.getElem?_eq_some_iff.1 aa.cells).1
 obtain ⟨ce,g8,dA⟩:=cH I.dQ
 obtain ⟨bF,fj,b9⟩:=cH I.eh
 have c2:Hb.aA w.heap H.fb 12=some (.slice ce F.rules.length g8):=by rw [← dA]; exact (aU I.cells).trans rfl
 have d6:Hb.aA w.heap H.fb 11=some (.slice bF F.a8.length fj):=by rw [← b9]; exact (aU I.cells).trans rfl
 have c9:∀ b,w.heap.size≤b→¬(V.v11.ownBlock=some b):=fun b hb h=>by have :=c4 I.eh h; omega
 obtain ⟨ei,dy,b7⟩:=aa.tm
 refine fk Tryz.func65 rfl Tryz.ntmps65 rfl ?_
 refine cQ (fun a2 bB=> ∃ (x G:Nat),(eX F (r.getD 1 [])= .ok x)∧(x≠0)∧(cX F x=false)∧(w.heap.size≤G)∧(bB.heap[G]? =some (.cells [aB x,.int .i64 (1:Nat),.bool false,.int .i64 (F.rules.length:Nat),.int .i64 (0:Nat)].toArray 157 (0,0)))∧(Wk w bB)∧(a2 0= .pointer (some ⟨H.rb,0,none⟩))∧(a2 1= .slice M r.length O)∧(a2 4= .pointer (some ⟨G,0,none⟩))) ?_ ?_
 have A:(fun w'=>Wk w w') w.drew:=(Md.refl _ _).drew
 refine bI (fun w'=>Wk w w') rfl wide A (hp 0 rfl (by kernel_rfl) (fun _ _=>az (.pointer (some ⟨H.rb,0,none⟩)) rfl) A (hp 1 rfl (by kernel_rfl) (fun _ _=>az (.slice M r.length O) rfl) A (hp 2 rfl (by kernel_rfl) (fun _ _=>aK bO rfl rfl (by omega) (ao.ok (hTs.2) (bL (by omega)))) A (hp 3 rfl (by kernel_rfl) (fun w' a=>ld bW rfl (Wk.aA a (bh.get (i:=1) hTs.2 (by omega)))) A (hp 5 rfl (by kernel_rfl) (fun _ _=>az (.pointer (some ⟨H.rb,0,none⟩)) rfl) A (hp 6 rfl (by kernel_rfl) (fun _ _=>nc rfl) A (hp 7 rfl (by kernel_rfl) (fun _ _=>fa dP rfl) A ?_)))))))
 refine hp 8 rfl (by kernel_rfl) (fun w' a=>ld dC rfl (Wk.aA a ((aU aa.cells).trans rfl))) A (hp 9 rfl (by kernel_rfl) (fun _ _=>nc rfl) A (hp 10 rfl (by kernel_rfl) (fun _ _=>fa dF rfl) A (hp 11 rfl (by kernel_rfl) (fun _ _=>fa jN rfl) A (hp 12 rfl (by kernel_rfl) (fun w' a=>ld kD rfl (Wk.aA a (c2))) A (hp 13 rfl (by kernel_rfl) (fun _ _=>bp oM rfl rfl) A (CI (Pn:=fun c w'=> ∃ e,eX F (r.getD 1 [])= .error e∧c=eG 25 ln (e:Nat)∧Wk w.drew w') 4 15 rfl rfl (by kernel_rfl) rfl rfl ?_ (fun c w' s av I=>by obtain ⟨e,he,h,h2⟩:=s; exact ⟨ln,e,sN he,h,Wk.mw (Md.trans A h2)⟩) ?_))))))
 refine (bE pA (qe B H F V R rows ln seen (r.getD 1 []) w.drew (I.wk A) (aa.wk A) ak.kd (by omega)) rfl fun v10 w10 hR10=> ?_)
 obtain ⟨x,Y,hx0,rfl,ar,aV⟩:=hR10
 have ab:(fun w'=>Wk w w') w10:=Md.trans A aV
 refine ⟨ab,?_⟩
 refine hp 14 rfl (by kernel_rfl) (fun _ _=>cz (ps:= [(0,aB x),(1,.int .i64 (1:Nat)),(3,.int .i64 (F.rules.length:Nat))]) (L:= [aB x,.int .i64 (1:Nat),.bool false,.int .i64 (F.rules.length:Nat),.int .i64 0]) q8 rfl (rfl)) ab (he 15 rfl (by kernel_rfl) (fZ m3 fun G w4 cZ bk a6=> ?_))
 have ai:(fun w'=>Wk w w') w4:=Md.trans ab bk.md
 refine ⟨ai,?_⟩
 refine he 16 rfl (by kernel_rfl) (gn lk rfl rfl rfl rfl a6 (by decide) fun w5 bf a7=> ?_)
 have aP:(fun w'=>Wk w w') w5:=Md.trans' ai bf (fun k hk h=>by have h1:=Md.size ab; have h2:=Md.size A; omega)
 refine ⟨aP,?_⟩
 exact hn (by kernel_rfl) (tn (⟨x,G,Y,hx0,ar,((by have h1:=Md.size ab; have h2:=Md.size A; omega)),a7,aP,rfl,rfl,rfl⟩))
 refine (fZ m3 fun G w4 cZ bk a6=> ?_)
 have ai:(fun w'=>Wk w w') w4:=Md.trans A bk.md
 refine ⟨ai,?_⟩
 refine lE 4 rfl (by kernel_rfl) rfl (bE pA (qe B H F V R rows ln seen (r.getD 1 []) w4 (I.wk ai) (aa.wk ai) ak.kd (by omega)) rfl fun v10 w10 hR10=> ?_) (fun c w' s av I=>by obtain ⟨e,he,h,h2⟩:=s; exact ⟨ln,e,sN he,h,Wk.mw (Md.trans ai h2)⟩)
 obtain ⟨x,Y,hx0,rfl,ar,aV⟩:=hR10
 have ab:(fun w'=>Wk w w') w10:=Md.trans ai aV
 refine ⟨ab,?_⟩
 refine hp 14 rfl (by kernel_rfl) (fun _ _=>cz (ps:= [(0,aB x),(1,.int .i64 (1:Nat)),(3,.int .i64 (F.rules.length:Nat))]) (L:= [aB x,.int .i64 (1:Nat),.bool false,.int .i64 (F.rules.length:Nat),.int .i64 0]) q8 rfl (rfl)) ab (he 16 rfl (by kernel_rfl) (gn lk rfl rfl rfl rfl (Wk.aw aV a6) (by decide) fun w5 bf a7=> ?_))
 have aP:(fun w'=>Wk w w') w5:=Md.trans' ab bf (fun k hk h=>by have h1:=Md.size ab; have h2:=Md.size A; omega)
 refine ⟨aP,?_⟩
 exact hn (by kernel_rfl) (tn (⟨x,G,Y,hx0,ar,((by have h1:=Md.size ab; have h2:=Md.size A; omega)),a7,aP,rfl,rfl,rfl⟩))
 rintro a2 bB ⟨x,G,Y,hx0,ar,hq4,hq1,aT,df,dg,dh⟩
 refine fx 0 df (fx 1 dg (fx 4 dh ?_))
 refine cQ (fun a4 aD=>(aD.heap[G]? =some (.cells [aB x,.int .i64 ((if r.getD 0 []=bU then 2 else 1:Nat):Nat),.bool false,.int .i64 (F.rules.length:Nat),.int .i64 (0:Nat)].toArray 157 (0,0)))∧(Wk w aD)∧(a4 0= .pointer (some ⟨H.rb,0,none⟩))∧(a4 1= .slice M r.length O)∧(a4 4= .pointer (some ⟨G,0,none⟩))) ?_ ?_
 refine sq (fun cc bb=>rg rfl (p (az (.slice M r.length O) rfl) (p (aK bO rfl rfl (by omega) (ao.ok (ao.wk hTs.2 aT) (bL (by omega)))) (p (ld bW rfl (bh.get (i:=0) (ao.wk hTs.2 aT) (by omega))) (p (fp rfl rfl) (nl (tn (bb _ _ ?_))))))))
 refine cd rfl (fun bt=> ?_) (fun bt=> ?_)
 exact rg rfl (p (fa nW rfl) (e (da iD rfl rfl (v:= .int .i64 (2:Nat)) rfl hq1 (by show _ < 5; decide) fun w6 cF hB6=>nl (tn (⟨((by rw [if_pos (show r.getD 0 []=bU from bt)]; exact hB6)),((aT.trans' cF (fun k hk h=>by omega))),rfl,rfl,rfl⟩)))))
 exact aE (tn (⟨((by rw [if_neg (show ¬r.getD 0 []=bU from bt)]; exact hq1)),aT,rfl,rfl,rfl⟩))
 rintro a4 aD ⟨hq3,Z,dk,dl,dm⟩
 refine fx 0 dk (fx 1 dl (fx 4 dm ?_))
 refine cQ (fun a5 cb=>(r.getD 2 []= [89]∨r.getD 2 []= [78])∧(cb=aD)∧(a5 0= .pointer (some ⟨H.rb,0,none⟩))∧(a5 1= .slice M r.length O)∧(a5 4= .pointer (some ⟨G,0,none⟩))) ?_ ?_
 refine rg rfl (p (az (.pointer (some ⟨H.rb,0,none⟩)) rfl) (p (az (.slice M r.length O) rfl) (p (aK bO rfl rfl (by omega) (ao.ok (ao.wk hTs.2 Z) (bL (by omega)))) (p (ld bW rfl (bh.get (i:=2) (ao.wk hTs.2 Z) (by omega))) (p (fp rfl rfl) (p mv (gs (t:=31) rfl (fun aY=> ?_) (fun aY=> ?_))))))))
 refine sk rfl rfl rfl rfl (sk rfl rfl rfl rfl (sk rfl rfl rfl rfl (sk rfl rfl rfl rfl (p (bz rfl) (eP rfl (bE dS (dX H.rb ln _ 114 aD (Wk.aA Z aa.cE) (by decide)) rfl fun dH w37 bm=> ?_) (fun c w' s av I=>by first | exact absurd s.2.1 (by decide) | exact ⟨ln,114,sO Y aY (of_decide_eq_false s.2.1),s.1,by rw [s.2.2]; exact Wk.mw Z⟩))))))
 obtain ⟨rfl,ca,rfl⟩:=bm
 exact nl (tn (⟨(.inl aY),rfl,rfl,rfl,rfl⟩))
 refine pg rfl rfl rfl (az (.slice M r.length O) rfl) (pg rfl rfl rfl (aK bO rfl rfl (by omega) (ao.ok (ao.wk hTs.2 Z) (bL (by omega)))) (pg rfl rfl rfl (ld bW rfl (bh.get (i:=2) (ao.wk hTs.2 Z) (by omega))) (pg rfl rfl rfl (fp rfl rfl) (p (bc rfl) (eP rfl (bE dS (dX H.rb ln _ 114 aD (Wk.aA Z aa.cE) (by decide)) rfl fun dH w37 bm=> ?_) (fun c w' s av I=>by first | exact absurd s.2.1 (by decide) | exact ⟨ln,114,sO Y aY (of_decide_eq_false s.2.1),s.1,by rw [s.2.2]; exact Wk.mw Z⟩))))))
 obtain ⟨rfl,ca,rfl⟩:=bm
 exact nl (tn (⟨(.inr (of_decide_eq_true ca)),rfl,rfl,rfl,rfl⟩))
 rintro a5 cb ⟨ay,dB,dn,dq,dr⟩
 refine fx 0 dn (fx 1 dq (fx 4 dr ?_))
 subst dB
 refine sq (fun cc bb=>rg rfl (p (az (.slice M r.length O) rfl) (p (aK bO rfl rfl (by omega) (ao.ok (ao.wk hTs.2 Z) (bL (by omega)))) (p (ld bW rfl (bh.get (i:=2) (ao.wk hTs.2 Z) (by omega))) (p (fp rfl rfl) (p (fa tO rfl) (e (da sV rfl rfl (v:= .bool (decide (r.getD 2 []= [89]))) rfl hq3 (by show _ < 5; decide) fun w7 cI co=> ?_))))))))
 have hE4:=Z.trans' cI (fun k hk h=>by omega)
 refine nl (tn (bb _ _ (sq (fun dL cu=>rg rfl (p (az (.pointer (some ⟨H.rb,0,none⟩)) rfl) (p (az (.slice M r.length O) rfl) (p (aK bO rfl rfl (by omega) (ao.ok (ao.wk hTs.2 hE4) (bL (by omega)))) (p (ld bW rfl (bh.get (i:=3) (ao.wk hTs.2 hE4) (by omega))) ?_))))))))
 refine eP rfl (bE nA (oh H.rb ln (r.getD 3 []) 1024 w7 (Wk.aA hE4 aa.cE) (by omega) (by omega)) rfl fun em w47 cU=> ?_) (fun c w' s av I=>by obtain ⟨e,he,h,h2⟩:=s; exact ⟨ln,e,zI Y ay he,h,Wk.mw (hE4.trans h2)⟩)
 obtain ⟨n,hnx,rfl,hE47⟩:=cU
 have hnl:=qG hnx
 refine p (fa p8 rfl) (e (da iD rfl rfl (v:= .int .i64 (n:Nat)) rfl (Wk.aw hE47 co) (by show _ < 5; decide) fun w8 cK cp=> ?_))
 have hE5:=(hE4.trans hE47).trans' cK (fun k hk h=>by omega)
 have hb8:w8.heap[G]? =some (.cells [aB x,.int .i64 ((if r.getD 0 []=bU then 2 else 1:Nat):Nat),.bool (decide (r.getD 2 []= [89])),.int .i64 (F.rules.length:Nat),.int .i64 (n:Nat)].toArray 157 (0,0)):=cp
 refine nl (tn (cu _ _ (sq (fun dO cv=>rg rfl (p (az (.pointer (some ⟨H.rb,0,none⟩)) rfl) (p (fa Cb rfl) (p (ld dN rfl ((aU hb8).trans rfl)) (p (fa p8 rfl) ?_))))))))
 refine p (ld dN rfl ((aU hb8).trans rfl)) (p (bd ((F.rules.length+n:Nat):Int) rfl rfl (aO (by omega) (by omega))) (p (le rfl rfl) (eP rfl (bE dS (dX H.rb ln _ 117 w8 (Wk.aA hE5 aa.cE) (by decide)) rfl fun en w56 cY=> ?_) (fun c w' s av I=>⟨ln,117,zJ Y ay hnx (by have :=of_decide_eq_false s.2.1; omega),s.1,by rw [s.2.2]; exact Wk.mw hE5⟩))))
 obtain ⟨rfl,dD,rfl⟩:=cY
 have aS:¬1024 < F.rules.length+n:=by have :=of_decide_eq_true dD; omega
 have hR5:=aa.wk hE5
 have hF5:=I.wk hE5
 have ht5:=dy.wk hE5
 refine nl (tn (cv _ _ (sq (fun dR cx=> ?_))))
 have ae:(fun w'=>Wk w56 w') w56.drew:=(Md.refl _ _).drew
 refine dj (fun w'=>Wk w56 w') 8 rfl wide ae (lq 0 rfl (by kernel_rfl) (fun _ _=>az (.pointer (some ⟨H.rb,0,none⟩)) rfl) ae (lq 1 rfl (by kernel_rfl) (fun _ _=>nc rfl) ae (lq 2 rfl (by kernel_rfl) (fun _ _=>fa qa rfl) ae (lq 3 rfl (by kernel_rfl) (fun w' a=>ld ma rfl (Wk.aA a ((aU hR5.cells).trans rfl))) ae (lq 4 rfl (by kernel_rfl) (fun _ _=>fa p7 rfl) ae (lq 5 rfl (by kernel_rfl) (fun w' a=>ld bg rfl (Wk.aA a ((aU hb8).trans rfl))) ae (lq 6 rfl (by kernel_rfl) (fun w' a=>jf dp js kR (bl.md (ht5) a id) rfl rfl (⟨_,rfl⟩) (show _=Value.int .i64 0 from (b7 x hx0).trans (by rw [ar]; rfl))) ae ?_)))))))
 refine lq 7 rfl (by kernel_rfl) (fun _ _=>bd ((1:Nat):Int) rfl rfl (aO (by omega) (by omega))) ae (bP 8 rfl (by kernel_rfl) (by kernel_rfl) (lV dp kR (ht5.wk ae) rfl rfl rfl (⟨_,rfl⟩) fun aF cJ cN=> ?_))
 have hM7x:=e5 cJ
 have hR7:bo aF B H {F with a8:=F.a8++ [(⟨x,(if r.getD 0 []=bU then 2 else 1:Nat),(decide (r.getD 2 []= [89])),F.rules.length,n⟩:c7)]} R rows ln seen:=hR5.mJ hM7x cN rfl (wo ar b7 (fun y _=>AL y))
 have hF7:=hF5.mJ hR5 hM7x
 have hb9:=hM7x.aw hb8 (fun h=>ht5.jQ (h ▸ hb8))
 have hT7:=(hT.wk hE5).md hM7x (fun k hk cur z hg=>by subst hk; exact ht5.jQ hg)
 have hMw7:=(Wk.mw hE5).trans (cV.mt hR5 hM7x)
 obtain ⟨cf,bu,c3⟩:=hF7.cm
 have c1:Hb.aA aF.heap H.fb 11=some (.slice bF F.a8.length fj):=by rw [← b9]; exact (aU hF7.cells).trans rfl
 refine di (by kernel_rfl) ?_
 refine tn (cx _ _ (sq (fun dT cy=> ?_)))
 have C:(fun w'=>Wk aF w') aF.drew:=(Md.refl _ _).drew
 refine dj (fun w'=>Wk aF w') 18 rfl wide C (lq 0 rfl (by kernel_rfl) (fun _ _=>az (.pointer (some ⟨H.rb,0,none⟩)) rfl) C (lq 1 rfl (by kernel_rfl) (fun _ _=>nc rfl) C (lq 2 rfl (by kernel_rfl) (fun _ _=>fa dP rfl) C (lq 3 rfl (by kernel_rfl) (fun w' a=>ld dC rfl (Wk.aA a ((aU hR7.cells).trans rfl))) C (lq 4 rfl (by kernel_rfl) (fun _ _=>nc rfl) C (lq 5 rfl (by kernel_rfl) (fun _ _=>fa tQ rfl) C (lq 6 rfl (by kernel_rfl) (fun w' a=>ld ma rfl (Wk.aA a ((aU hF7.cells).trans rfl))) C ?_)))))))
 refine lq 7 rfl (by kernel_rfl) (fun _ _=>fa p7 rfl) C (lq 8 rfl (by kernel_rfl) (fun w' a=>ld bg rfl (Wk.aA a ((aU hb9).trans rfl))) C (lq 9 rfl (by kernel_rfl) (fun _ _=>az (.pointer (some ⟨H.rb,0,none⟩)) rfl) C (lq 10 rfl (by kernel_rfl) (fun _ _=>nc rfl) C (lq 11 rfl (by kernel_rfl) (fun _ _=>fa dP rfl) C (lq 12 rfl (by kernel_rfl) (fun w' a=>ld dC rfl (Wk.aA a ((aU hR7.cells).trans rfl))) C (lq 13 rfl (by kernel_rfl) (fun _ _=>nc rfl) C (lq 14 rfl (by kernel_rfl) (fun _ _=>fa dF rfl) C ?_)))))))
 refine lq 15 rfl (by kernel_rfl) (fun _ _=>fa lC rfl) C (lq 16 rfl (by kernel_rfl) (fun w' a=>ld nj rfl (Wk.aA a (c1))) C (lq 17 rfl (by kernel_rfl) (fun _ _=>bp wP rfl rfl) C (bP 18 rfl (by kernel_rfl) (by kernel_rfl) (lV dp kR (bu.wk C) rfl rfl rfl (⟨_,rfl⟩) fun aG cL cO=> ?_))))
 have cP:bl aG.heap H.mc (jO .u16) (a3 cf (aB x) (.int .i64 (F.a8.length:Nat))):=cO
 have hM8x:=e5 cL
 have bs:TF aF [1] (fun k=>k=H.mc):=TF.eq (cg bu) (by decide)
 have hX8:=(BC hF7).md (L:= [1]) hM8x bs (by decide)
 have hR8:=hR7.md (L:= [1]) hM8x bs (by decide) hR7.ne.2.1 hR7.ne.2.2
 have hb10:=hM8x.g6 bs hb9 (by decide)
 have hT8x:=hT7.md hM8x (fun k hk cur z hg=>by subst hk; exact bu.jQ hg)
 have hMw8:=hMw7.trans (hM8x.mono (fun k _ hk=>⟨hk ▸ hF7.lo.2,.inr (.inr (.inl hk))⟩))
 have hn4:=c9 G hq4
 have aR:¬(V.v11.ownBlock=some H.rb):=cG hX8.eh hR8.cells (by decide)
 have bv:¬(V.v11.ownBlock=some H.fb):=cG hX8.eh hX8.cells (by decide)
 refine di (by kernel_rfl) ?_
 refine tn (cy _ _ (sq (fun dU cA=> ?_)))
 have U:(fun w'=>Md (fun k=>V.v11.ownBlock=some k) aG w') aG.drew:=(Md.refl _ _).drew
 refine dj (fun w'=>Md (fun k=>V.v11.ownBlock=some k) aG w') 18 rfl wide U (bq 0 rfl (by kernel_rfl) (fun _=>az (.pointer (some ⟨H.rb,0,none⟩)) rfl) (fun _=>U) (bq 1 rfl (by kernel_rfl) (fun _=>nc rfl) (fun _=>U) (bq 2 rfl (by kernel_rfl) (fun _=>fa dP rfl) (fun _=>U) (fH 3 rfl (by kernel_rfl) (fun w' a=>ld dC rfl (Md.aA a ((aU hR8.cells).trans rfl) aR)) U (bq 4 rfl (by kernel_rfl) (fun _=>az (.pointer (some ⟨H.rb,0,none⟩)) rfl) (fun _=>U) (bq 5 rfl (by kernel_rfl) (fun _=>nc rfl) (fun _=>U) (bq 6 rfl (by kernel_rfl) (fun _=>fa dP rfl) (fun _=>U) ?_)))))))
 refine fH 7 rfl (by kernel_rfl) (fun w' a=>ld dC rfl (Md.aA a ((aU hR8.cells).trans rfl) aR)) U (bq 8 rfl (by kernel_rfl) (fun _=>nc rfl) (fun _=>U) (bq 9 rfl (by kernel_rfl) (fun _=>fa dF rfl) (fun _=>U) (bq 10 rfl (by kernel_rfl) (fun _=>fa lC rfl) (fun _=>U) (fH 11 rfl (by kernel_rfl) (fun w' a=>ld nj rfl (Md.aA a ((aU hX8.cells).trans rfl) bv)) U (fH 12 rfl (by kernel_rfl) (fun w' a=>cR l8 rfl (rfl) (fun j c5=>ba.bS ⟨_,Md.aw a hb10 hn4⟩ j)) U (fR 13 rfl (by kernel_rfl) (kG oF rfl rfl rfl fun d1 w96 d5 bQ cq=> ?_)))))))
 have hE96:=e5 bQ.md
 have hX9:=hX8.wk hE96
 have hR9:=hR8.wk hE96
 have hsz9:=(Array.getElem?_eq_some_iff.1 hR9.cells).1
 have bZ:(fun w'=>Md (fun k=>V.v11.ownBlock=some k) aG w') w96:=U.trans' bQ.md (fun _ _ h=>h.elim)
 refine ⟨bZ,?_⟩
 refine fR 14 rfl (by kernel_rfl) (ap oF (hX9.eh) rfl (by omega) rfl (ao.dz cq) (rfl) (rfl) (by omega) (by omega) fun bA w97 b5 aq eg d9=> ?_)
 have hMw9:=(hMw8.trans (Wk.mw hE96)).trans (Mw.of aq (TF.own hX9.eh (by decide)) (fun k hk=>(c4 hX9.eh hk).1))
 have hR10:=bo.own hR9 hX9.eh aq (by decide)
 have hc10:=aq.aw hX9.cells (cG hX9.eh hX9.cells (by decide))
 have hb11:=aq.aw (Wk.aw hE96 hb10) hn4
 have hT10:=(hT8x.wk hE96).md aq (fw hX9.eh (by decide))
 have de:World.ownsRow w97 B 157 5 bA (F.a8++ [(⟨x,(if r.getD 0 []=bU then 2 else 1:Nat),(decide (r.getD 2 []= [89])),F.rules.length,n⟩:c7)]).length (g9 (F.a8++ [(⟨x,(if r.getD 0 []=bU then 2 else 1:Nat),(decide (r.getD 2 []= [89])),F.rules.length,n⟩:c7)])):=by rw [show g9 (F.a8++ [(⟨x,(if r.getD 0 []=bU then 2 else 1:Nat),(decide (r.getD 2 []= [89])),F.rules.length,n⟩:c7)])=g9 F.a8++jH (⟨x,(if r.getD 0 []=bU then 2 else 1:Nat),(decide (r.getD 2 []= [89])),F.rules.length,n⟩:c7) from by simp [g9],List.length_append]; exact b5
 have aX:(fun w'=>Md (fun k=>V.v11.ownBlock=some k) aG w') w97:=bZ.trans' aq (fun _ _ h=>h)
 refine ⟨aX,?_⟩
 refine bq 15 rfl (by kernel_rfl) (fun _=>nc rfl) (fun _=>aX) (bq 16 rfl (by kernel_rfl) (fun _=>fa dF rfl) (fun _=>aX) (bq 17 rfl (by kernel_rfl) (fun _=>fa lC rfl) (fun _=>aX) (bP 18 rfl (by kernel_rfl) (by kernel_rfl) (da sZ rfl rfl (v:=bA) (dG b5) hc10 (by show _ < 14; omega) fun w9 hM9 a9=> ?_))))
 have hF11:=iQ.xZ (x:=(⟨x,(if r.getD 0 []=bU then 2 else 1:Nat),(decide (r.getD 2 []= [89])),F.rules.length,n⟩:c7)) hX9 (cP.wk hE96) (z7 (c:=(⟨x,(if r.getD 0 []=bU then 2 else 1:Nat),(decide (r.getD 2 []= [89])),F.rules.length,n⟩:c7)) ar c3) aq de hM9 a9
 have hR11:=bo.nR hR10 hc10 hM9
 have hb12:=hM9.aw hb11 (fun h=>by rw [h,hc10] at hb11; cases hb11)
 have hT11:=hT10.md hM9 (eE hc10 (by decide))
 have hMw10:=hMw9.trans (Mw.of hM9 (TF.eq (c6 hc10) (by decide)) (fun k hk=>hk ▸ hX9.lo.1))
 refine di (by kernel_rfl) ?_
 refine tn (cA _ _ (sq (fun dV cB=>rg rfl (p (fa p8 rfl) (p (ld dN rfl ((aU hb12).trans rfl)) (p mv (nl (tn (cB _ _ ?_)))))))))
 refine aw (lp (fun bG aI wI=> ∃ (i:Nat) (xs:List eO) (rows':List Rw) (aZ:Nat) (E:db) (R':dM),(i≤n)∧(ej [r.getD 0 [],r.getD 1 []] (gQ F.kind F.aliases (⟨x,(if r.getD 0 []=bU then 2 else 1:Nat),(decide (r.getD 2 []= [89])),F.rules.length,n⟩:c7)) H.eof (group [r.getD 0 [],r.getD 1 []] (gQ F.kind F.aliases (⟨x,(if r.getD 0 []=bU then 2 else 1:Nat),(decide (r.getD 2 []= [89])),F.rules.length,n⟩:c7)) H.eof n rows) xs (n - i) rows')∧(xs.length=i)∧(bH wI B H.fb H.mc {F with a8:=F.a8++ [(⟨x,(if r.getD 0 []=bU then 2 else 1:Nat),(decide (r.getD 2 []= [89])),F.rules.length,n⟩:c7)],rules:=F.rules++xs} E)∧(bo wI B H {F with a8:=F.a8++ [(⟨x,(if r.getD 0 []=bU then 2 else 1:Nat),(decide (r.getD 2 []= [89])),F.rules.length,n⟩:c7)],rules:=F.rules++xs} R' rows' aZ seen)∧(fV {F with a8:=F.a8++ [(⟨x,(if r.getD 0 []=bU then 2 else 1:Nat),(decide (r.getD 2 []= [89])),F.rules.length,n⟩:c7)],rules:=F.rules++xs} rows' seen)∧(cV B H w wI)∧(wI.heap[G]? =some (.cells [aB x,.int .i64 ((if r.getD 0 []=bU then 2 else 1:Nat):Nat),.bool (decide (r.getD 2 []= [89])),.int .i64 (F.rules.length:Nat),.int .i64 (n:Nat)].toArray 157 (0,0)))∧(Tg wI bD 9 r.length (.slice M r.length O) (r.map str))∧(aI 0= .pointer (some ⟨H.rb,0,none⟩))∧(aI 1= .slice M r.length O)∧(aI 4= .pointer (some ⟨G,0,none⟩))∧(aI 102= .int .i64 (n:Nat))∧(aI 103= .int .i64 (i:Nat))∧(n - i=bG)) _ ⟨0,[],rows,ln,{V with v11:=bA},R,(by omega),ej.start,rfl,((by rw [List.append_nil]; exact hF11)),((by rw [List.append_nil]; exact hR11)),(⟨by simp only [List.length_append,List.length_singleton,List.length_nil]; omega,ak.sl,ak.row,ak.kd,ak.al⟩),hMw10,hb12,hT11,rfl,rfl,rfl,rfl,rfl,rfl⟩ ?_)
 rintro bG aI wI ⟨i,xs,rows',aZ,E,R',hi,ax,hxl,bJ,ag,aM,hMw,b6,aQ,ds,dt,dx,du,dv,rfl⟩
 refine fx 0 ds (fx 1 dt (fx 4 dx (fx 102 du (fx 103 dv (sq (fun dW cC=>rg rfl (p (lt rfl rfl) (nl (tn (cC _ _ (sq (fun dY cD=>cd rfl (fun c0=> ?_) (fun c0=> ?_)))))))))))))
 refine aE (tn (cD _ _ (sq (fun dI cr=>aw (sq (fun dJ cs=> ?_))))))
 have ah:(fun w'=>Md (fun k=>k=H.rb) wI w') wI.drew:=(Md.refl _ _).drew
 refine bI (fun w'=>Md (fun k=>k=H.rb) wI w') rfl wide ah (hp 0 rfl (by kernel_rfl) (fun _ _=>az (.pointer (some ⟨H.rb,0,none⟩)) rfl) ah (hp 1 rfl (by kernel_rfl) (fun _ _=>az (.slice M r.length O) rfl) ah (hp 2 rfl (by kernel_rfl) (fun _ _=>aK bO rfl rfl (by omega) (ao.ok (aQ.bK.2) (bL (by omega)))) ah (hp 3 rfl (by kernel_rfl) (fun w' a=>ld bW rfl (bh.get (i:=0) (aQ.md a (eE ag.cells (by decide))).bK.2 (by omega))) ah (hp 4 rfl (by kernel_rfl) (fun _ _=>az (.slice M r.length O) rfl) ah (hp 5 rfl (by kernel_rfl) (fun _ _=>aK bO rfl rfl (by omega) (ao.ok (aQ.bK.2) (bL (by omega)))) ah (hp 6 rfl (by kernel_rfl) (fun w' a=>ld bW rfl (bh.get (i:=1) (aQ.md a (eE ag.cells (by decide))).bK.2 (by omega))) ah ?_)))))))
 refine he 7 rfl (by kernel_rfl) (g7 (L:= [str (r.getD 0 []),str (r.getD 1 [])]) cw rfl rfl rfl rfl fun ci w14 hb14 bN cl=> ?_)
 have hE14:Wk wI w14:=e5 bN.md
 have hMw14:=hMw.trans (Wk.mw hE14)
 have bR:(fun w'=>Md (fun k=>k=H.rb) wI w') w14:=ah.trans' bN.md (fun _ _ h=>h.elim)
 refine ⟨bR,?_⟩
 refine lE 8 rfl (by kernel_rfl) rfl (bE pB (qn B H {F with a8:=F.a8++ [(⟨x,(if r.getD 0 []=bU then 2 else 1:Nat),(decide (r.getD 2 []= [89])),F.rules.length,n⟩:c7)],rules:=F.rules++xs} R' rows' aZ seen [r.getD 0 [],r.getD 1 []] ci 2 _ _ w14 (ag.wk hE14) (Tg.qI cl rfl) rfl (by decide) (fun q bw=>(aM.row q bw).2.1)) rfl fun el w15 cT=> ?_) (fun c w' s av I=>by
  obtain ⟨h1,h2⟩:=s
  have hm:=hMw14.trans (cV.rb (ag.wk hE14) h2)
  rcases h1 with ⟨rfl,h3⟩ | ⟨a0,aC,rest,rfl,h4,h3⟩
  exact ⟨_,_,pE Y ay hnx aS (ax.ends (by omega)),h3,hm⟩
  exact ⟨_,_,pE Y ay hnx aS (ax.other (by omega) h4),h3,hm⟩)
 obtain ⟨a0,aC,rest,rfl,b8,⟨aj,hR2⟩,hT15,hM15⟩:=cT
 obtain ⟨ch,nv,rfl⟩:=hT15.slice
 have hF2:=(bJ.wk hE14).rb (ag.wk hE14) hM15
 have hMw2:=hMw14.trans (cV.rb (ag.wk hE14) hM15)
 have hrow:aC≠[]∧aC.length≤70000∧∀ x∈aC,x.length≤70000:=aM.row (a0,aC) (by simp)
 have hB2:=fV.lu aM
 have hbl2:=aM.len
 simp only [List.length_cons,List.length_append] at hbl2
 have hT2:=(aQ.wk hE14).md hM15 (eE (ag.wk hE14).cells (by decide))
 have hb2:=hM15.aw (Wk.aw hE14 b6) (fun h=>by have h1:=(ag.wk hE14).cells; rw [← h,Wk.aw hE14 b6] at h1; cases h1)
 have bT:(fun w'=>Md (fun k=>k=H.rb) wI w') w15:=bR.trans' hM15 (fun _ _ h=>h)
 refine ⟨bT,?_⟩
 refine hp 9 rfl (by kernel_rfl) (fun _ _=>au) bT (hn (by kernel_rfl) (tn (cs _ _ (sq (fun dK ct=> ?_)))))
 have aR:¬(E.dw.ownBlock=some H.rb):=cG hF2.dQ hR2.cells (by decide)
 have bv:¬(E.dw.ownBlock=some H.fb):=cG hF2.dQ hF2.cells (by decide)
 have c8:¬(E.dw.ownBlock=some G):=cG hF2.dQ hb2 (by decide)
 have J:(fun w'=>Md (fun k=>E.dw.ownBlock=some k) w15 w') w15.drew:=(Md.refl _ _).drew
 refine dj (fun w'=>Md (fun k=>E.dw.ownBlock=some k) w15 w') 21 rfl wide J (bq 0 rfl (by kernel_rfl) (fun _=>az (.pointer (some ⟨H.rb,0,none⟩)) rfl) (fun _=>J) (bq 1 rfl (by kernel_rfl) (fun _=>nc rfl) (fun _=>J) (bq 2 rfl (by kernel_rfl) (fun _=>fa dP rfl) (fun _=>J) (fH 3 rfl (by kernel_rfl) (fun w' a=>ld dC rfl (Md.aA a ((aU hR2.cells).trans rfl) aR)) J (bq 4 rfl (by kernel_rfl) (fun _=>az (.pointer (some ⟨H.rb,0,none⟩)) rfl) (fun _=>J) (bq 5 rfl (by kernel_rfl) (fun _=>nc rfl) (fun _=>J) (bq 6 rfl (by kernel_rfl) (fun _=>fa dP rfl) (fun _=>J) ?_)))))))
 refine fH 7 rfl (by kernel_rfl) (fun w' a=>ld dC rfl (Md.aA a ((aU hR2.cells).trans rfl) aR)) J (bq 8 rfl (by kernel_rfl) (fun _=>nc rfl) (fun _=>J) (bq 9 rfl (by kernel_rfl) (fun _=>fa dF rfl) (fun _=>J) (bq 10 rfl (by kernel_rfl) (fun _=>fa jN rfl) (fun _=>J) (fH 11 rfl (by kernel_rfl) (fun w' a=>ld kD rfl (Md.aA a ((aU hF2.cells).trans rfl) bv)) J (bq 12 rfl (by kernel_rfl) (fun _=>az (.pointer (some ⟨H.rb,0,none⟩)) rfl) (fun _=>J) (fH 13 rfl (by kernel_rfl) (fun w' a=>cR l8 rfl (rfl) (fun j c5=>ba.bS ⟨_,Md.aw a hb2 c8⟩ j)) J (bq 14 rfl (by kernel_rfl) (fun _=>mv) (fun _=>J) ?_)))))))
 refine uH 15 rfl (by kernel_rfl) rfl (bE yn (FI B H {F with a8:=F.a8++ [(⟨x,(if r.getD 0 []=bU then 2 else 1:Nat),(decide (r.getD 2 []= [89])),F.rules.length,n⟩:c7)],rules:=F.rules++xs} E aj rest a0 seen (⟨x,(if r.getD 0 []=bU then 2 else 1:Nat),(decide (r.getD 2 []= [89])),F.rules.length,n⟩:c7) aC B ch nv w15.drew (hF2.wk (Md.refl _ _).drew) (hR2.wk (Md.refl _ _).drew) hB2 (by show (if r.getD 0 []=bU then 2 else 1)=1∨(if r.getD 0 []=bU then 2 else 1)=2; split <;> simp) (hT15.wk (Md.refl _ _).drew) hrow.2) rfl fun ek w129 cS=> ?_) (fun c w' s av I=>by obtain ⟨e,he,h,h2⟩:=s; exact ⟨_,_,pE Y ay hnx aS (ax.bad (by omega) b8 he),h,hMw2.trans (Wk.mw (e5 h2))⟩)
 obtain ⟨q,bw,hql,⟨vn,rfl,b2⟩,hE129⟩:=cS
 obtain ⟨aJ,aL,rfl⟩:=b2.slice
 have hE129:=e5 hE129
 have bV:(fun w'=>Md (fun k=>E.dw.ownBlock=some k) w15 w') w129:=Md.mono hE129 (fun _ _ h=>h.elim)
 refine ⟨bV,?_⟩
 refine fR 16 rfl (by kernel_rfl) (kG oG rfl rfl rfl fun dZ w130 d3 bi ck=> ?_)
 have hE130:=hE129.trans bi.md
 have hF4:=hF2.wk hE130
 have hR4:=hR2.wk hE130
 have hT4:=hT2.wk hE130
 have hb4x:=Wk.aw hE130 hb2
 have hTq4:=b2.wk bi.md
 have hsz4:=(Array.getElem?_eq_some_iff.1 hR4.cells).1
 have bX:(fun w'=>Md (fun k=>E.dw.ownBlock=some k) w15 w') w130:=bV.trans' bi.md (fun _ _ h=>h.elim)
 refine ⟨bX,?_⟩
 refine fR 17 rfl (by kernel_rfl) (ap oG (hF4.dQ) rfl (by omega) rfl (ao.dz ck) (rfl) (rfl) (by simp only [List.length_append]; omega) (by simp only [List.length_append]; omega) fun bx w131 b3 am ed d7=> ?_)
 have hMw5:=(hMw2.trans (Wk.mw hE130)).trans (Mw.of am (TF.own hF4.dQ (by decide)) (fun k hk=>(c4 hF4.dQ hk).1))
 have hR5x:=bo.own hR4 hF4.dQ am (by decide)
 have hc5:=am.aw hF4.cells (cG hF4.dQ hF4.cells (by decide))
 have hb5:=am.aw hb4x (cG hF4.dQ hb4x (by decide))
 have hT5:=hT4.md am (fw hF4.dQ (by decide))
 have dc:World.ownsRow w131 B 155 7 bx ((F.rules++xs)++ [q]).length (eU (((F.rules++xs)++ [q]).zip (E.rn++ [.slice aJ q.next.length aL]))):=by
  have dE:(F.rules++xs).length=E.rn.length:=by have :=hF4.nx.1; rw [List.length_map] at this; exact this.symm
  rw [List.zip_append dE,show eU ((F.rules++xs).zip E.rn++ [q].zip [.slice aJ q.next.length aL])=eU ((F.rules++xs).zip E.rn)++gl (q,.slice aJ q.next.length aL) from by simp [eU],List.length_append]
  exact b3
 have aW:(fun w'=>Md (fun k=>E.dw.ownBlock=some k) w15 w') w131:=bX.trans' am (fun _ _ h=>h)
 refine ⟨aW,?_⟩
 refine bq 18 rfl (by kernel_rfl) (fun _=>nc rfl) (fun _=>aW) (bq 19 rfl (by kernel_rfl) (fun _=>fa dF rfl) (fun _=>aW) (bq 20 rfl (by kernel_rfl) (fun _=>fa jN rfl) (fun _=>aW) (bP 21 rfl (by kernel_rfl) (by kernel_rfl) (da s0 rfl rfl (v:=bx) (dG b3) hc5 (by show _ < 14; omega) fun w9 hM9 a9=> ?_))))
 have hF6:=bH.x3 (x:=q) (vx:= .slice aJ q.next.length aL) hF4 hTq4 am dc hM9 a9
 have hR6:=bo.nR hR5x hc5 hM9
 have hb6x:=hM9.aw hb5 (fun h=>by rw [h,hc5] at hb5; cases hb5)
 have hT6:=hT5.md hM9 (eE hc5 (by decide))
 have hMw6:=hMw5.trans (Mw.of hM9 (TF.eq (c6 hc5) (by decide)) (fun k hk=>hk ▸ hF4.lo.1))
 refine di (by kernel_rfl) ?_
 refine tn (ct _ _ ?_)
 have ac:(fun w'=>Md (fun k=>aj.vn.ownBlock=some k) w9 w') w9.drew:=(Md.refl _ _).drew
 refine dj (fun w'=>Md (fun k=>aj.vn.ownBlock=some k) w9 w') 13 rfl wide ac (bq 0 rfl (by kernel_rfl) (fun _=>az (.pointer (some ⟨H.rb,0,none⟩)) rfl) (fun _=>ac) (bq 1 rfl (by kernel_rfl) (fun _=>az (.pointer (some ⟨H.rb,0,none⟩)) rfl) (fun _=>ac) (bq 2 rfl (by kernel_rfl) (fun _=>nc rfl) (fun _=>ac) (bq 3 rfl (by kernel_rfl) (fun _=>fa qc rfl) (fun _=>ac) (fH 4 rfl (by kernel_rfl) (fun w' a=>ld rI rfl (Md.aA a ((aU hR6.cells).trans rfl) (cG hR6.on hR6.cells (by decide)))) ac (bq 5 rfl (by kernel_rfl) (fun _=>az (.pointer (some ⟨H.rb,0,none⟩)) rfl) (fun _=>ac) (bq 6 rfl (by kernel_rfl) (fun _=>nc rfl) (fun _=>ac) ?_)))))))
 refine bq 7 rfl (by kernel_rfl) (fun _=>fa mB rfl) (fun _=>ac) (fH 8 rfl (by kernel_rfl) (fun w' a=>ld dN rfl (Md.aA a ((aU hR6.cells).trans rfl) (cG hR6.on hR6.cells (by decide)))) ac (fR 9 rfl (by kernel_rfl) (gq oC rfl rfl fun d0 w144 d4 cM cn=> ?_)))
 have hE144:=e5 cM.md
 have hR7x:=hR6.wk hE144
 have hF7x:=hF6.wk hE144
 have hsz7:=(Array.getElem?_eq_some_iff.1 hR7x.cells).1
 have bY:(fun w'=>Md (fun k=>aj.vn.ownBlock=some k) w9 w') w144:=Md.mono hE144 (fun _ _ h=>h.elim)
 refine ⟨bY,?_⟩
 refine fR 10 rfl (by kernel_rfl) (ap oC (hR7x.on) rfl (by omega) rfl (ao.dz cn) (rfl) (rfl) (by simp only [List.length_append]; omega) (by simp only [List.length_append]; omega) fun a1 w145 b4 an ef d8=> ?_)
 have hMw7x:=(hMw6.trans (Wk.mw hE144)).trans (Mw.of an (TF.own hR7x.on (by decide)) (fun k hk=>(c4 hR7x.on hk).1))
 have b1:TF w144 [5] (fun k=>aj.vn.ownBlock=some k):=TF.own hR7x.on (by decide)
 have hF8x:=hF7x.md an b1 (by decide) (fun h=>by obtain ⟨f,hf,_⟩:=hF7x.cm; exact b1.no (cg hf) (by decide) h)
 have hc8:=an.aw hR7x.cells (cG hR7x.on hR7x.cells (by decide))
 have hb8x:=an.aw (Wk.aw hE144 hb6x) (cG hR7x.on (Wk.aw hE144 hb6x) (by decide))
 have hT8y:=(hT6.wk hE144).md an (fw hR7x.on (by decide))
 have dd:World.ownsRow w145 B 3 1 a1 ((F.rules++xs)++ [q]).length (((F.rules++xs)++ [q]).map fun r=>Value.int .i64 (r.line:Nat)):=by
  rw [List.map_append,List.length_append]
  show World.ownsRow w145 B 3 1 a1 _ (_++ [Value.int .i64 (q.line:Nat)])
  rw [hql]
  exact b4
 have br:(fun w'=>Md (fun k=>aj.vn.ownBlock=some k) w9 w') w145:=bY.trans' an (fun _ _ h=>h)
 refine ⟨br,?_⟩
 refine bq 11 rfl (by kernel_rfl) (fun _=>nc rfl) (fun _=>br) (bq 12 rfl (by kernel_rfl) (fun _=>fa qc rfl) (fun _=>br) (bP 13 rfl (by kernel_rfl) (by kernel_rfl) (da AD rfl rfl (v:=a1) (dG b4) hc8 (by show _ < 7; omega) fun w10 aN cj=> ?_)))
 have b0:TF w145 [94] (fun k=>k=H.rb):=TF.eq (c6 hc8) (by decide)
 have hF9x:=hF8x.md aN b0 (by decide) (fun h=>by obtain ⟨f,hf,_⟩:=hF8x.cm; exact b0.no (cg hf) (by decide) h)
 refine di (by kernel_rfl) ?_
 exact bn (tn (cr _ _ (rg rfl (p (ad rfl rfl (bC (by omega))) (p mv (nl (tn (⟨_,by omega,i+1,xs++ [q],rest,a0,{E with dw:=bx,rn:=E.rn++ [.slice aJ q.next.length aL]},{aj with vn:=a1},(by omega),((by rw [show n - (i+1)=n - i - 1 by omega]; exact ax.step (by omega) b8 bw)),((by rw [List.length_append,hxl]; rfl)),((by rw [← List.append_assoc]; exact hF9x)),((by rw [← List.append_assoc]; exact bo.Ec (q:=q) hR7x an dd aN cj rfl (fun _=>rfl))),(⟨by simp only [List.length_append,List.length_singleton]; omega,hB2.sl,hB2.row,hB2.kd,hB2.al⟩),((hMw7x.trans (Mw.of aN (TF.eq (c6 hc8) (by decide)) (fun k hk=>hk ▸ hR7x.lo.1)))),((aN.aw hb8x (fun h=>by rw [h,hc8] at hb8x; cases hb8x))),((hT8y.md aN (eE hc8 (by decide)))),rfl,rfl,rfl,rfl,rfl,rfl⟩))))))))
 refine ext (te _ (te _ (be (eW ?_))))
 refine f0 rfl ?_
 rw [show n - i=0 by omega] at ax
 exact ⟨rfl,_,rows',aZ,zK Y ay hnx aS ax.done,⟨E,R',bJ,ag,aM⟩,hMw⟩
end Go.Hb.kq
end
section
set_option maxRecDepth 20000
set_option maxHeartbeats 1000000
namespace Go.Hb.l2
open Go.Hb.cU
open Go.Proofs
open Go.Hb.eK Go.Hb.fg Go.Hb.jt Go.Hb.fz Go.Hb.iP Go.Hb.kq Go.Hb.jy Go.Hb.gZ Go.Hb.kt Go.Hb.fJ Go.Hb.k3 Go.Hb.l3 Go.Hb.fY Go.Hb.fX
def nC:c7:=⟨0,0,false,0,0⟩
theorem BI {x:Nat} :∀ {cs:List c7} {i:Nat},cs.findIdx? (fun c=>decide (c.flag=x))=some i→∃ c,cs[i]? =some c∧dE cs x=some c:=by
 intro cs
 induction cs with
 | nil=>intro i h; simp at h
 | cons a l ih=>
   intro i h
   rw [List.findIdx?_cons] at h
   unfold dE
   rw [List.find?_cons]
   by_cases p:a.flag=x
   · simp only [p,decide_true,if_true] at h ⊢
     cases h
     exact ⟨a,rfl,rfl⟩
   · simp only [p,decide_false] at h ⊢
     simp only [Bool.false_eq_true,if_false,Option.map_eq_some_iff] at h
     obtain ⟨j,q,rfl⟩:=h
     obtain ⟨c,h1,h2⟩:=ih q
     exact ⟨c,by simpa using h1,h2⟩
theorem Ep {F:aH} {x:Nat} (h:x=F.sp.getD 0 0):ic F x=true :=by unfold ic; rw [decide_eq_true h]; rfl
theorem Er {F:aH} {x:Nat} (h:(dE F.a8 x).isSome=true) (hk:((dE F.a8 x).getD nC).kind=2):ic F x=true :=by
 unfold ic
 obtain ⟨c,hc⟩:=Option.isSome_iff_exists.1 h
 rw [hc] at hk ⊢
 simp only [Option.getD_some] at hk
 simp [hk]
theorem qK {F:aH} {x:Nat} (h0:x≠F.sp.getD 0 0) (h:(dE F.a8 x).isSome=true) (hk:((dE F.a8 x).getD nC).kind≠2):ic F x=false :=by
 unfold ic
 obtain ⟨c,hc⟩:=Option.isSome_iff_exists.1 h
 rw [hc] at hk ⊢
 simp only [Option.getD_some] at hk
 rw [decide_eq_false h0]
 simp [hk]
theorem qL {F:aH} {x:Nat} (h0:x≠F.sp.getD 0 0) (h:(dE F.a8 x).isSome=false):ic F x=false :=by
 unfold ic
 rw [decide_eq_false h0]
 cases hc:dE F.a8 x with
 | none=>rfl
 | some c=>rw [hc] at h; cases h
theorem k9 {F:aH} {q:eO} {j:Nat} (a:j < q.next.length) (h:ic F (q.next.getD j 0)=false):iU F q=true :=by
 unfold iU
 rw [List.any_eq_true]
 exact ⟨_,ee a,by rw [h]; rfl⟩
theorem x7 {F:aH} {q:eO} (h:∀ j,j < q.next.length→ic F (q.next.getD j 0)=true):iU F q=false :=by
 unfold iU
 rw [List.any_eq_false]
 intro x c
 obtain ⟨j,a,rfl⟩:=mH 0 c
 rw [h j a]; simp
theorem lz {p:eO→Bool} {q:eO} :∀ {l:List eO} {i:Nat},(∀ j c,j < i→l[j]? =some c→p c=false)→l[i]? =some q→p q=true→l.find? p=some q:=by
 intro l
 induction l with
 | nil=>intro i _ h; simp at h
 | cons a l ih=>
   intro i s hi hp
   rw [List.find?_cons]
   cases i with
   | zero=>simp only [List.getElem?_cons_zero,Option.some.injEq] at hi; subst hi; rw [hp]
   | succ i=>
     rw [s 0 a (by omega) rfl]
     exact ih (i:=i) (fun j c C A=>s (j+1) c (by omega) (by simpa using A)) (by simpa using hi) hp
theorem BL {p:eO→Bool} {l:List eO} (h:∀ j c,j < l.length→l[j]? =some c→p c=false):l.find? p=none:=by
 rw [List.find?_eq_none]
 intro q i
 obtain ⟨j,a⟩:=List.getElem?_of_mem i
 rw [h j q (List.getElem?_eq_some_iff.1 a).1 a]; simp
theorem BK {x:Nat} {cs:List c7} (h:cs.findIdx? (fun c=>decide (c.flag=x))=none):dE cs x=none:=by
 rw [List.findIdx?_eq_none_iff] at h
 unfold dE
 rw [List.find?_eq_none]
 intro c hc
 simpa using h c hc
theorem tv (B fb mc:Nat) (F:aH) (V:db) (x:Nat) (w:World) (q:bH w B fb mc F V) (aC:F.a8.length≤70000):
 aT Tryz.prog 67 (List.toArray [aW fb,aB x]) w (fun v w'=>v= .tuple #[.agg (jH ((dE F.a8 x).getD nC)).toArray,.bool (dE F.a8 x).isSome]∧Wk w w'):=by
 obtain ⟨ab,fj,I⟩:=cH q.eh
 have ho11:=q.eh
 rw [I] at ho11
 have am:Hb.aA w.heap fb 11=some (.slice ab F.a8.length fj):=by rw [← I]; exact (aU q.cells).trans rfl
 obtain ⟨f,hf,aq⟩:=q.cm
 obtain ⟨iv,ob,ar,aw,E⟩:∃ (iv:Nat) (ob:Bool),(f (aB x)).getD (.int .i64 0)=U iv∧(f (aB x)).isSome=ob∧((ob=false∧dE F.a8 x=none)∨(ob=true∧∃ c,F.a8[iv]? =some c∧dE F.a8 x=some c)):=by
  rw [aq x]
  cases hfi:F.a8.findIdx? (fun c=>decide (c.flag=x)) with
  | none=>exact ⟨0,false,rfl,rfl,.inl ⟨rfl,BK hfi⟩⟩
  | some i=>exact ⟨i,true,rfl,rfl,.inr ⟨rfl,BI hfi⟩⟩
 refine enter Tryz.func67 rfl Tryz.ntmps67 rfl ?_
 refine ae (fun _ J=>(e (al m3 fun ay w4 az a C=>aj (((J _ _ (sq (fun _ M=>sq (fun _ O=> ?_)))))))))
 refine rg rfl (ag (aW fb) (p (e8 km rfl rfl) (ak ((O _ _ (cf (rfl) (aE (tn (M _ _ ?_)))))))))
 refine ae (fun _ Y=>(ag (aW fb) (p (nc rfl) (p (fa tQ rfl) (p (ld ma rfl (Wk.aA a.md ((aU q.cells).trans rfl))) (ag (aB x) (p (uO dp js kR (hf.wk a.md) rfl rfl (⟨_,rfl⟩) (ar) (aw)) ?_)))))))
 refine p mv (p (xt rfl rfl) (p (xt rfl rfl) (p au (aj (((Y _ _ (sq (fun _ Z=> ?_)))))))))
 refine ae (fun _ aa=>(p mv (p (no rfl) (ak ((aa _ _ (cb rfl (fun A=> ?_) (fun A=> ?_))))))))
 have ax:ob=false :=by simpa using A
 have ap:dE F.a8 x=none:=by rcases E with ⟨_,h⟩ | ⟨h,_⟩; exact h; rw [ax] at h; cases h
 refine ae (fun _ s=>(p (cz (ps:= []) (L:= [.int .u16 0,.int .i64 0,.bool false,.int .i64 0,.int .i64 0]) q8 rfl (rfl)) (e (bJ lk rfl rfl rfl rfl (C) (by simp) fun aD ah ac=>aj (((s _ _ (rt ?_))))))))
 exact tr (et rfl (dd (cs:=jH nC) rfl l8 rfl (fun j av=>ac.bS j)) dJ (⟨by rw [ap]; rfl,a.md.trans' ah (fun k hk h=>by omega)⟩))
 have hob1:ob=true :=by simpa using A
 obtain ⟨c,G,an⟩:∃ c,F.a8[iv]? =some c∧dE F.a8 x=some c:=by rcases E with ⟨h,_⟩ | ⟨_,h⟩; rw [hob1] at h; cases h; exact h
 have hivl:=(List.getElem?_eq_some_iff.1 G).1
 have ho11x:=aJ ho11 a.md
 refine aE (tn (Z _ _ (ae (fun _ s=>(ag (aW fb) (p (nc rfl) (p (fa dF rfl) (p (fa lC rfl) ?_))))))))
 refine p (ld nj rfl (Wk.aA a.md am)) (p mv (p (aK BA rfl rfl (by omega) (ao.ok ((aG ho11x).2) (fun h=>by have :=congrArg List.length h; rw [show (g9 F.a8).length=F.a8.length*5 from ka (f:=jH) (m:=5) (fun _=>rfl) _] at this; simp at this; omega))) (p (cR l8 rfl (rfl) (hZ (f:=jH) (m:=5) (fun _=>rfl) (aG ho11x).2 G)) (e (bJ lk rfl rfl rfl rfl (C) (by simp) fun aF ai ad=>aj (((s _ _ ?_))))))))
 exact rt (et rfl (dd (cs:=jH c) rfl l8 rfl (fun j av=>ad.bS j)) dJ (⟨by rw [an]; rfl,a.md.trans' ai (fun k hk h=>by omega)⟩))
theorem zx (B:Nat) (H:bj) (F:aH) (rows:List Rw) (ln:Nat) (seen:List Tx) (w:World) (ba:St w B H F rows ln seen) (hnx:∀ q∈F.rules,q.next.length≤64):
 cW Tryz.prog 35 (List.toArray [.pointer (some ⟨H.rb,0,none⟩)]) w (fun v w'=>v= .tuple #[]∧F.rules.find? (iU F)=none∧(∃ V R' ah,bH w' B H.fb H.mc F V∧bo w' B H F R' rows ah seen)∧cV B H w w') (fun c w'=> ∃ q,F.rules.find? (iU F)=some q∧c=eG 25 q.line 118∧cV B H w w'):=by
 obtain ⟨V,R,G,ac,aO⟩:=ba
 obtain ⟨ai,g8,ay⟩:=cH G.dQ
 have ho12:=G.dQ
 rw [ay] at ho12
 have bb:Hb.aA w.heap H.fb 12=some (.slice ai F.rules.length g8):=by rw [← ay]; exact (aU G.cells).trans rfl
 obtain ⟨vr,vs,vn⟩:=R
 obtain ⟨Z,cv,bG⟩:=cH ac.on
 obtain rfl :vn= .slice Z F.rules.length cv:=bG
 have hbl:=aO.len
 have hlo:=ac.lo
 refine fk Tryz.func35 rfl Tryz.ntmps35 rfl ?_
 refine sq (fun bO aT=>rg rfl (p (az (.pointer (some ⟨H.rb,0,none⟩)) rfl) (p (nc rfl) (p (fa dP rfl) (p (ld dC rfl ((aU ac.cells).trans rfl)) (p (nc rfl) (p (fa dF rfl) ?_)))))))
 refine p (fa jN rfl) (p (ld kD rfl (bb)) (p (bp oM rfl rfl) (p mv (nl (tn (aT _ _ (aw (lp (fun M Y wI=> ∃ (i ah:Nat),(i≤F.rules.length)∧(∀ j q,j < i→F.rules[j]? =some q→iU F q=false)∧(bH wI B H.fb H.mc F V)∧(bo wI B H F ⟨vr,vs,.slice Z F.rules.length cv⟩ rows ah seen)∧(cV B H w wI)∧(Y 0= .pointer (some ⟨H.rb,0,none⟩))∧(Y 15= .slice ai F.rules.length g8)∧(Y 16= .int .i64 (F.rules.length:Nat))∧(Y 17= .int .i64 (i:Nat))∧(F.rules.length - i=M)) _ ⟨0,ln,(by omega),((fun j q aI=>by omega)),G,ac,(Md.refl _ _),rfl,rfl,rfl,rfl,rfl⟩ ?_))))))))
 rintro M Y wI ⟨i,ah,hi,C,ab,ap,hMw,bl,bm,bq,br,rfl⟩
 refine fx 0 bl (fx 15 bm (fx 16 bq (fx 17 br (sq (fun bS aX=>rg rfl (p (lt rfl rfl) (nl (tn (aX _ _ (sq (fun bT aY=>cd rfl (fun hc18=> ?_) (fun hc18=> ?_))))))))))))
 refine aE (tn (aY _ _ (sq (fun bU aZ=>aw (sq (fun bV a0=> ?_))))))
 have ho12I:=ab.dQ
 rw [ay] at ho12I
 have aF:i < F.rules.length:=by omega
 obtain ⟨vn,bF,ar⟩:=bN.get ab.nx (i:=i) (by rw [List.length_map]; exact aF)
 obtain ⟨q,s⟩:∃ q,F.rules[i]? =some q:=⟨_,List.getElem?_eq_getElem aF⟩
 have bk:(F.rules.map (·.next)).getD i []=q.next:=by rw [List.getD_eq_getElem?_getD,List.getElem?_map,s]; rfl
 rw [bk] at ar
 have hqnl:=hnx q (List.mem_of_getElem? s)
 obtain ⟨aj,ak,rfl⟩:=ar.slice
 have aJ:(F.rules.zip V.rn)[i]? =some (q,.slice aj q.next.length ak):=by rw [List.getElem?_zip_eq_some]; exact ⟨s,bF⟩
 have aL:(eU (F.rules.zip V.rn)).length=(F.rules.zip V.rn).length*7:=ka (f:=gl) (m:=7) (fun _=>rfl) _
 have bh:(F.rules.map fun r=>Value.int .i64 (r.line:Nat))[i]? =some (.int .i64 (q.line:Nat)):=by rw [List.getElem?_map,s]; rfl
 refine rg rfl (p (az (.int .i64 (i:Nat)) rfl) (p (aK pV rfl rfl (by omega) (ao.ok ((aG ho12I).2) (fun h=>by rw [h] at aL; have h2:0=(F.rules.zip V.rn).length*7:=aL; have h3:=(List.getElem?_eq_some_iff.1 aJ).1; omega))) ?_))
 refine p (cR o3 rfl (rfl) (hZ (f:=gl) (m:=7) (fun _=>rfl) (aG ho12I).2 aJ)) (e (al rq fun b0 w3 b2 aD aQ=> ?_))
 skip
 refine p (bD (.int .i64 (i:Nat)) rfl) (e (bJ pJ rfl rfl rfl rfl (aQ) (by simp) fun wt2_5 a6 aP=> ?_))
 have aa:Wk wI wt2_5:=aD.md.trans' a6 (fun k hk h=>by omega)
 have hF3:=ab.wk aa
 have hR3:=ap.wk aa
 have hz3:=aD.size
 have hlr:=(Array.getElem?_eq_some_iff.1 ap.cells).1
 refine nl (tn (a0 _ _ (sq (fun bW a1=>rg rfl (p (az (.pointer (some ⟨H.rb,0,none⟩)) rfl) (p (az (.pointer (some ⟨H.rb,0,none⟩)) rfl) (p (nc rfl) (p (fa qc rfl) ?_))))))))
 refine p (ld rI rfl ((aU hR3.cells).trans rfl)) (p (az (.int .i64 (i:Nat)) rfl) (p (aK Bz rfl rfl (by omega) (ao.ok ((aG hR3.on).2) (by simp; intro h; rw [h] at s; simp at s))) (p (ld dN rfl (ao.gG (aG hR3.on).2 bh)) (p (nc rfl) (p (fa mB rfl) (e (da iD rfl rfl (v:= .int .i64 (q.line:Nat)) rfl hR3.cells (by show _ < 7; decide) fun w9 hM9 aS=> ?_)))))))
 have hR9:=hR3.cj (R':=⟨vr,vs,.slice Z F.rules.length cv⟩) (ln':=q.line) hM9 aS rfl hR3.rws hR3.rt
 have hF9:=hF3.rb hR3 hM9
 have hb9:=hM9.B aP (fun h=>by omega)
 have hT9:=(ar.wk aa).md hM9 (eE hR3.cells (by decide))
 have hMw9:=(hMw.trans (Wk.mw aa)).trans (cV.rb hR3 hM9)
 refine nl (tn (a1 _ _ (sq (fun bX a2=>rg rfl (p (fa nV rfl) (p (ld g4 rfl ((hb9.aA 6).trans rfl)) (p (bp gW rfl rfl) (p mv ?_))))))))
 refine nl (tn (a2 _ _ (aw (lp (fun M E J=> ∃ (j:Nat),(j≤q.next.length)∧(∀ U,U < j→ic F (q.next.getD U 0)=true)∧(bH J B H.fb H.mc F V)∧(bo J B H F ⟨vr,vs,.slice Z F.rules.length cv⟩ rows q.line seen)∧(cV B H w J)∧(Tg J B 71 q.next.length (.slice aj q.next.length ak) (q.next.map aB))∧(E 0= .pointer (some ⟨H.rb,0,none⟩))∧(E 15= .slice ai F.rules.length g8)∧(E 16= .int .i64 (F.rules.length:Nat))∧(E 17= .int .i64 (i:Nat))∧(E 33= .slice aj q.next.length ak)∧(E 34= .int .i64 (q.next.length:Nat))∧(E 35= .int .i64 (j:Nat))∧(q.next.length - j=M)) _ ⟨0,(by omega),((fun U bf=>by omega)),hF9,hR9,hMw9,hT9,rfl,rfl,rfl,rfl,rfl,rfl,rfl,rfl⟩ ?_))))
 rintro M E J ⟨j,aI,av,am,aq,aC,ae,bs,bt,bv,bw,bx,bA,bB,rfl⟩
 refine fx 0 bs (fx 15 bt (fx 16 bv (fx 17 bw (fx 33 bx (fx 34 bA (fx 35 bB (sq (fun bY a3=>rg rfl (p (lt rfl rfl) (nl (tn (a3 _ _ (sq (fun bZ a5=>cd rfl (fun bd=> ?_) (fun bd=> ?_)))))))))))))))
 refine aE (tn (a5 _ _ (sq (fun bP an=>aw (sq (fun bQ aV=> ?_))))))
 have bI:(q.next.map aB)[j]? =some (aB (q.next.getD j 0)):=by rw [List.getElem?_map,List.getD_eq_getElem?_getD,List.getElem?_eq_getElem (by omega :j < q.next.length)]; rfl
 refine rg rfl (p (aK a4 rfl rfl (by omega) (ao.ok (ae.bK.2) (bL (by omega)))) (p (ld bg rfl (ao.gG ae.bK.2 bI)) (p au (nl (tn (aV _ _ (sq (fun bR aW=>rg rfl ?_))))))))
 refine p (az (.pointer (some ⟨H.rb,0,none⟩)) rfl) (p (nc rfl) (p (fa dP rfl) (p (ld dC rfl ((aU aq.cells).trans rfl)) (p mv (e (cl sE (tv B H.fb H.mc F V (q.next.getD j 0) _ am (by omega)) rfl fun b3 w45 a9=> ?_))))))
 obtain ⟨rfl,hE45⟩:=a9
 have hz45:=hE45.size
 refine p mv (p (xt rfl rfl) (p (xt rfl rfl) (e (al m3 fun b1 w6 hb6 a8 hB6=>e (bJ lk rfl rfl rfl rfl (hB6) (by simp) fun wt7_10 a7 aR=> ?_)))))
 have hE7:Wk J wt7_10:=(hE45.trans a8.md).trans' a7 (fun k hk h=>by omega)
 have hF7:=am.wk hE7
 have hR7:=aq.wk hE7
 have hMw7:=aC.trans (Wk.mw hE7)
 refine p au (nl (tn (aW _ _ (rg rfl (p (az (.pointer (some ⟨H.rb,0,none⟩)) rfl) (p mv (p (az (.pointer (some ⟨H.rb,0,none⟩)) rfl) (p (nc rfl) ?_))))))))
 refine p (fa dP rfl) (p (ld dC rfl ((aU hR7.cells).trans rfl)) (p (nc rfl) (p (fa dF rfl) (p (fa tP rfl) (p (iH o6 rfl rfl (by omega)) (p (ld bg rfl ((aU hF7.cells).trans rfl)) (p (bu rfl rfl) ?_)))))))
 refine p mv (gs (t:=60) rfl (fun I=> ?_) (fun I=> ?_))
 refine sk rfl rfl rfl rfl (sk rfl rfl rfl rfl (lP rfl rfl rfl (lP rfl rfl rfl (lP rfl rfl rfl (sk rfl rfl rfl rfl (p (bz rfl) ?_))))))
 refine eP rfl (bE dS (dX H.rb q.line _ 118 wt7_10 hR7.cE (by decide)) rfl fun aM w68 O=> ?_) (fun c w' a aN G=>by
  first
   | exact absurd a.2.1 (by decide)
   | exact ⟨q,lz C s (k9 (j:=j) (by omega) (qK (fun h=>I (by rw [h])) A (by have :=of_decide_eq_false a.2.1; omega))),a.1,by rw [a.2.2]; exact hMw7⟩
   | exact ⟨q,lz C s (k9 (j:=j) (by omega) (qL (fun h=>I (by rw [h])) (by simpa using A))),a.1,by rw [a.2.2]; exact hMw7⟩)
 obtain ⟨rfl,ag,rfl⟩:=O
 refine nl (bn (tn (an _ _ (rg rfl (p (ad rfl rfl (bC (by omega))) (p mv (nl (tn ?_))))))))
 exact ⟨_,by omega,j+1,(by omega),((fun k hk=>by rcases Nat.lt_or_ge k j with h | h <;> first | exact av k h | (rw [show k=j by omega]; exact Ep (by omega)))),hF7,hR7,hMw7,(ae.wk hE7),rfl,rfl,rfl,rfl,rfl,rfl,rfl,rfl⟩
 refine pg rfl rfl rfl mv (pg rfl rfl rfl mv (gb (t:=62) rfl (fun A=> ?_) (fun A=> ?_)))
 refine pg rfl rfl rfl (fa nW rfl) (pg rfl rfl rfl (ld dN rfl ((aR.aA 1).trans rfl)) (pg rfl rfl rfl (bu rfl rfl) (pg rfl rfl rfl (bz rfl) (p (bc rfl) ?_))))
 refine eP rfl (bE dS (dX H.rb q.line _ 118 wt7_10 hR7.cE (by decide)) rfl fun aM w68 O=> ?_) (fun c w' a aN G=>by
  first
   | exact absurd a.2.1 (by decide)
   | exact ⟨q,lz C s (k9 (j:=j) (by omega) (qK (fun h=>I (by rw [h])) A (by have :=of_decide_eq_false a.2.1; omega))),a.1,by rw [a.2.2]; exact hMw7⟩
   | exact ⟨q,lz C s (k9 (j:=j) (by omega) (qL (fun h=>I (by rw [h])) (by simpa using A))),a.1,by rw [a.2.2]; exact hMw7⟩)
 obtain ⟨rfl,ag,rfl⟩:=O
 refine nl (bn (tn (an _ _ (rg rfl (p (ad rfl rfl (bC (by omega))) (p mv (nl (tn ?_))))))))
 exact ⟨_,by omega,j+1,(by omega),((fun k hk=>by rcases Nat.lt_or_ge k j with h | h <;> first | exact av k h | (rw [show k=j by omega]; exact Er A (by have :=of_decide_eq_true ag; omega)))),hF7,hR7,hMw7,(ae.wk hE7),rfl,rfl,rfl,rfl,rfl,rfl,rfl,rfl⟩
 refine sk rfl rfl rfl rfl (sk rfl rfl rfl rfl (sk rfl rfl rfl rfl (pg rfl rfl rfl (bc rfl) (p (bc rfl) ?_))))
 refine eP rfl (bE dS (dX H.rb q.line _ 118 wt7_10 hR7.cE (by decide)) rfl fun aM w68 O=> ?_) (fun c w' a aN G=>by
  first
   | exact absurd a.2.1 (by decide)
   | exact ⟨q,lz C s (k9 (j:=j) (by omega) (qK (fun h=>I (by rw [h])) A (by have :=of_decide_eq_false a.2.1; omega))),a.1,by rw [a.2.2]; exact hMw7⟩
   | exact ⟨q,lz C s (k9 (j:=j) (by omega) (qL (fun h=>I (by rw [h])) (by simpa using A))),a.1,by rw [a.2.2]; exact hMw7⟩)
 obtain ⟨rfl,ag,rfl⟩:=O
 refine nl (bn (tn (an _ _ (rg rfl (p (ad rfl rfl (bC (by omega))) (p mv (nl (tn ?_))))))))
 exact absurd ag (by decide)
 refine ext (te _ (te _ (be (bn (tn (aZ _ _ (rg rfl (p (ad rfl rfl (bC (by omega))) ?_))))))))
 exact p mv (nl (tn (⟨_,by omega,i+1,q.line,(by omega),((fun k bM hk ax=>by rcases Nat.lt_or_ge k i with h | h <;> first | exact C k bM h ax | (rw [show k=i by omega,s] at ax; cases ax; exact x7 (fun U bf=>av U (by omega))))),am,aq,aC,rfl,rfl,rfl,rfl,rfl⟩)))
 refine ext (te _ (te _ (be (eW ?_))))
 refine f0 rfl ?_
 exact ⟨rfl,BL (fun j q aI bi=>C j q (by omega) bi),⟨V,_,_,ab,ap⟩,hMw⟩
end Go.Hb.l2
end
section
set_option maxRecDepth 20000
set_option maxHeartbeats 1000000
namespace Go.Hb.rv
open Go.Hb.cU
open Go.Proofs
open Go.Hb.eK
theorem E3 (q s:Nat) (w:World):
 CallsD Tryz.prog 31 (List.toArray [.pointer (some ⟨q,0,none⟩),.pointer (some ⟨s,0,none⟩)]) .returning w (fun a u1 w'=> ∃ v,a= .returned v∧u1= .returning∧(fun w'=>Wk w w') w'):=by
 refine sL (v:= .nilIface) Tryz.func31 rfl Tryz.ntmps31 rfl (fun c₀ cs hc=> .inr ⟨by simp [recoverD,hc],rfl,rfl⟩) ?_
 refine p (Gq qB Hk rfl) (p mv (p (xt rfl rfl) (p (xt rfl rfl) (e (al fy fun C G hb2 j hB2=>e (bJ dO rfl rfl rfl rfl (hB2) (by simp) fun I i E=>p au (nl ?_)))))))
 refine tn (sq (fun A c=>rg rfl (p mv (nl (tn (c _ _ (cf (rfl) (aE ?_))))))))
 refine f0 rfl ?_
 exact j.md.trans' i (fun k hk h=>by omega)
theorem E2 (a c:Nat) (ln:Nat) (er:Int) (w:World) (h2:∃ v:Value,w.heap[a]? =some (.cells [v].toArray 22 (0,0))) (h3:∃ L:List Value,L.length=3∧w.heap[c]? =some (.cells L.toArray 25 (0,0))) (hne:a≠c):
 CallsD Tryz.prog 31 (List.toArray [.pointer (some ⟨a,0,none⟩),.pointer (some ⟨c,0,none⟩)]) (.panicking (eG 25 ln er)) w (fun M u1 w'=> ∃ v,M= .returned v∧u1=(.panicking [{v:= .iface 25 (.agg [.int .i64 1,.int .i64 (ln:Nat),.int .i64 er].toArray),recovered:=true}])∧(fun w'=>w'.heap[a]? =some (.cells [.pointer none].toArray 22 (0,0))∧w'.heap[c]? =some (.cells [.int .i64 1,.int .i64 (ln:Nat),.int .i64 er].toArray 25 (0,0))∧Md (fun k=>k=a∨k=c) w w') w'):=by
 obtain ⟨v2,h2⟩:=h2
 obtain ⟨G,Z,h3⟩:=h3
 have hl2:=(Array.getElem?_eq_some_iff.1 h2).1
 have hl3:=(Array.getElem?_eq_some_iff.1 h3).1
 refine sL (v:= .iface 25 (.agg [.int .i64 1,.int .i64 (ln:Nat),.int .i64 er].toArray)) Tryz.func31 rfl Tryz.ntmps31 rfl (fun c₀ cs hc=> .inl (by simp [recoverD,hc,eG])) ?_
 refine p (Gp qB rfl) (p mv (p (xt rfl rfl) (p (xt rfl rfl) (e (al fy fun J ag hb2 C hB2=>e (bJ dO rfl rfl rfl rfl (hB2) (by simp) fun i q O=> ?_))))))
 have V:ba i.heap J [.int .i64 1,.int .i64 (ln:Nat),.int .i64 er]:=O
 refine p au (nl (tn (sq (fun ad Y=>rg rfl (p mv (nl (tn (Y _ _ ?_))))))))
 refine ct (rfl) ?_
 have E:(fun w'=>Md (fun k=>k=a∨k=c) i w') i.drew:=(Md.refl _ _).drew
 refine bI (fun w'=>Md (fun k=>k=a∨k=c) i w') rfl wide E (hp 0 rfl (by kernel_rfl) (fun w' aa=>cR fE rfl (rfl) (fun j ae=>ba.bS (Md.B aa V (fun h=>by omega)) j)) E (he 1 rfl (by kernel_rfl) (da pK rfl rfl (v:= .pointer none) rfl (q.aw (Wk.aw C.md h2) (fun h=>by omega)) (by show 0 < 1; decide) fun w5 s U=> ?_)))
 have I:(fun w'=>Md (fun k=>k=a∨k=c) i w') w5:=E.trans' s (fun _ _ h=> .inl h)
 refine ⟨I,?_⟩
 refine he 2 rfl (by kernel_rfl) (gn dO rfl rfl rfl rfl (s.aw (q.aw (Wk.aw C.md h3) (fun h=>by omega)) (fun h=>hne h.symm)) (by rw [Z]; decide) fun w6 A hB6=> ?_)
 have ab:(fun w'=>Md (fun k=>k=a∨k=c) i w') w6:=I.trans' A (fun _ _ h=> .inr h)
 refine ⟨ab,?_⟩
 refine hn (by kernel_rfl) (f0 rfl ?_)
 have ac:G.take 0 ++ [Value.int .i64 1,.int .i64 (ln:Nat),.int .i64 er]++G.drop (0 +3)= [Value.int .i64 1,.int .i64 (ln:Nat),.int .i64 er]:=by rw [List.drop_eq_nil_of_le (by omega)]; rfl
 rw [ac] at hB6
 exact ⟨A.aw U hne,hB6,(((C.md.mono fun _ _ h=>h.elim).trans' q (fun k hk h=>by omega)).trans' (e5 s) (fun _ _ h=> .inl h)).trans' A (fun _ _ h=> .inr h)⟩
theorem vC (a c:Nat) (w:World):(invoke (.fn (.func 31) #[aW a,aW c]) #[]).run Tryz.prog w= .ok (.enter 31 #[aW a,aW c]) w:=by
 have h:=yZ #[aW a,aW c] w
 simp [invoke,h]
theorem nP {n:Nat} {D:List Deferred} {G:List Nat} {σ:Nat→Value} {t:Nat} (h:t < n):ev ⟨n,D,G,none⟩ σ (.tmp t)=σ t:=by
 show cond (Nat.blt t n) (σ t) undef=_
 rw [show Nat.blt t n=true from by simpa using h]; rfl
theorem E7 {n:Nat} {G:List Nat} {fn:Func} {R:Value→World→Prop} {σ:Nat→Value} {w:World} {a c ln:Nat} {er:Int} (p:fn.results= #[.cell 2 22,.cell 3 25]) (hlt:3 < n) (q:σ 2= .pointer (some ⟨a,0,none⟩)) (s:σ 3= .pointer (some ⟨c,0,none⟩)) (h2:∃ v:Value,w.heap[a]? =some (.cells [v].toArray 22 (0,0))) (h3:∃ L:List Value,L.length=3∧w.heap[c]? =some (.cells L.toArray 25 (0,0))) (hne:a≠c)
 (i:∀ w',Md (fun k=>k=a∨k=c) w w'→R (.tuple #[.pointer none,.agg [.int .i64 1,.int .i64 (ln:Nat),.int .i64 er].toArray]) w'):qb ⟨n,[{target:= .fn (.func 31) #[.pointer (some ⟨a,0,none⟩),.pointer (some ⟨c,0,none⟩)],args:= #[]}],G,none⟩ (jY Tryz.prog fn R) (.panic (eG 25 ln er)) σ w:=by
 refine BG (vC a c w) (E2 a c ln er w h2 h3 hne) ?_
 rintro w' ⟨hc2,hc3,hm⟩
 exact ⟨_,ot p (ik (qW ((nP (by omega)).trans q) dC ((aU hc2).trans rfl))) (ik (dd (cs:= [.int .i64 1,.int .i64 (ln:Nat),.int .i64 er]) ((nP (by omega)).trans s) fE rfl (fun j _=>by rw [Nat.zero_add,aU hc3]; simp))),i w' hm⟩
theorem E8 {n:Nat} {G:List Nat} {fn:Func} {R:Value→World→Prop} {σ:Nat→Value} {w:World} {a c:Nat} {v:Value} {L:List Value} (q:fn.results= #[.cell 2 22,.cell 3 25]) (hlt:3 < n) (s:σ 2= .pointer (some ⟨a,0,none⟩)) (A:σ 3= .pointer (some ⟨c,0,none⟩)) (h2:w.heap[a]? =some (.cells [v].toArray 22 (0,0))) (h3:w.heap[c]? =some (.cells L.toArray 25 (0,0))) (i:L.length=3)
 (p:∀ w',Wk w w'→R (.tuple #[v,.agg L.toArray]) w'):qb ⟨n,[{target:= .fn (.func 31) #[.pointer (some ⟨a,0,none⟩),.pointer (some ⟨c,0,none⟩)],args:= #[]}],G,none⟩ (jY Tryz.prog fn R) .ret σ w:=by
 refine BE (vC a c w) (E3 a c w) ?_
 intro w' hm
 have hc2:=Wk.aw hm h2
 have hc3:=Wk.aw hm h3
 exact ⟨_,ot q (ik (qW ((nP (by omega)).trans s) dC ((aU hc2).trans rfl))) (ik (dd (cs:=L) ((nP (by omega)).trans A) fE i (fun j _=>by rw [Nat.zero_add,aU hc3]; simp))),p w' hm⟩
end Go.Hb.rv
end
section
set_option maxRecDepth 20000
set_option maxHeartbeats 1000000
namespace Go.Hb.ry
open Go.Hb.cU
open Go.Proofs
open Go.Hb.eK Go.Hb.fg Go.Hb.jt Go.Hb.fz Go.Hb.iP Go.Hb.kq Go.Hb.ju Go.Hb.gX
theorem Cx (B:Nat) (H:bj) (F:aH) (rows:List Rw) (ln:Nat) (seen:List Tx) (r:List Tx) (i:Nat) (a:Option Addr) (c:Nat) (w:World) (j:St w B H F rows ln seen) (hT:Tg w i 9 r.length (.slice a r.length c) (r.map str)) (hrl:∀ x∈r,x.length≤70000) (hw:r.length=width (r.getD 0 [])) (s:fC F seen) (q:width (r.getD 0 [])=2→r.getD 0 []∉seen) (p:F.bM.length+F.aliases.length+F.a8.length+F.rules.length+rows.length < 70000) (hk:r.getD 0 []=eZ):cW Tryz.prog 58 (List.toArray [.pointer (some ⟨H.rb,0,none⟩),.slice a r.length c]) w (eN B H seen (bm H.eof F seen rows ln r) w) (eM B H (bm H.eof F seen rows ln r) w):=by
 have h:=Dq B H F rows ln seen r i a c w j hT (by rw [hw,hk]; decide) hrl
 rw [show bm H.eof F seen rows ln r=gy F seen rows ln r from by unfold bm; rw [hk]; rfl]
 exact h
theorem CF (B:Nat) (H:bj) (F:aH) (rows:List Rw) (ln:Nat) (seen:List Tx) (r:List Tx) (i:Nat) (a:Option Addr) (c:Nat) (w:World) (j:St w B H F rows ln seen) (hT:Tg w i 9 r.length (.slice a r.length c) (r.map str)) (hrl:∀ x∈r,x.length≤70000) (hw:r.length=width (r.getD 0 [])) (s:fC F seen) (q:width (r.getD 0 [])=2→r.getD 0 []∉seen) (p:F.bM.length+F.aliases.length+F.a8.length+F.rules.length+rows.length < 70000) (hk:r.getD 0 []=e9):cW Tryz.prog 59 (List.toArray [.pointer (some ⟨H.rb,0,none⟩),.slice a r.length c]) w (eN B H seen (bm H.eof F seen rows ln r) w) (eM B H (bm H.eof F seen rows ln r) w):=by
 have h:=zt B H F rows ln seen r i a c w j hT (by rw [hw,hk]; decide) hrl
 rw [show bm H.eof F seen rows ln r=jk F rows ln r from by unfold bm; rw [hk]; rfl]
 exact h
theorem CH (B:Nat) (H:bj) (F:aH) (rows:List Rw) (ln:Nat) (seen:List Tx) (r:List Tx) (i:Nat) (a:Option Addr) (c:Nat) (w:World) (j:St w B H F rows ln seen) (hT:Tg w i 9 r.length (.slice a r.length c) (r.map str)) (hrl:∀ x∈r,x.length≤70000) (hw:r.length=width (r.getD 0 [])) (s:fC F seen) (q:width (r.getD 0 [])=2→r.getD 0 []∉seen) (p:F.bM.length+F.aliases.length+F.a8.length+F.rules.length+rows.length < 70000) (hk:r.getD 0 []=fu):cW Tryz.prog 60 (List.toArray [.pointer (some ⟨H.rb,0,none⟩),.slice a r.length c]) w (eN B H seen (bm H.eof F seen rows ln r) w) (eM B H (bm H.eof F seen rows ln r) w):=by
 have h:=GD B H F rows ln seen r i a c w j hT (by rw [hw,hk]; decide) hrl
 rw [show bm H.eof F seen rows ln r=jl F rows ln r from by unfold bm; rw [hk]; rfl]
 exact h
theorem CB (B:Nat) (H:bj) (F:aH) (rows:List Rw) (ln:Nat) (seen:List Tx) (r:List Tx) (i:Nat) (a:Option Addr) (c:Nat) (w:World) (j:St w B H F rows ln seen) (hT:Tg w i 9 r.length (.slice a r.length c) (r.map str)) (hrl:∀ x∈r,x.length≤70000) (hw:r.length=width (r.getD 0 [])) (q:fC F seen) (p:width (r.getD 0 [])=2→r.getD 0 []∉seen) (s:F.bM.length+F.aliases.length+F.a8.length+F.rules.length+rows.length < 70000) (hk:r.getD 0 []=fG):cW Tryz.prog 61 (List.toArray [.pointer (some ⟨H.rb,0,none⟩),.slice a r.length c]) w (eN B H seen (bm H.eof F seen rows ln r) w) (eM B H (bm H.eof F seen rows ln r) w):=by
 have h:=mU B H F rows ln seen r i a c w j hT (by rw [hw,hk]; decide) hrl (by rw [hk]; decide) (q _ (by rw [hk]; decide) (p (by rw [hk]; decide)))
 rw [show bm H.eof F seen rows ln r=fU F rows ln r from by unfold bm; rw [hk]; rfl]
 exact h
theorem Cy (B:Nat) (H:bj) (F:aH) (rows:List Rw) (ln:Nat) (seen:List Tx) (r:List Tx) (i:Nat) (a:Option Addr) (c:Nat) (w:World) (j:St w B H F rows ln seen) (hT:Tg w i 9 r.length (.slice a r.length c) (r.map str)) (hrl:∀ x∈r,x.length≤70000) (hw:r.length=width (r.getD 0 [])) (q:fC F seen) (p:width (r.getD 0 [])=2→r.getD 0 []∉seen) (s:F.bM.length+F.aliases.length+F.a8.length+F.rules.length+rows.length < 70000) (hk:r.getD 0 []=fL):cW Tryz.prog 61 (List.toArray [.pointer (some ⟨H.rb,0,none⟩),.slice a r.length c]) w (eN B H seen (bm H.eof F seen rows ln r) w) (eM B H (bm H.eof F seen rows ln r) w):=by
 have h:=mU B H F rows ln seen r i a c w j hT (by rw [hw,hk]; decide) hrl (by rw [hk]; decide) (q _ (by rw [hk]; decide) (p (by rw [hk]; decide)))
 rw [show bm H.eof F seen rows ln r=fU F rows ln r from by unfold bm; rw [hk]; rfl]
 exact h
theorem Cz (B:Nat) (H:bj) (F:aH) (rows:List Rw) (ln:Nat) (seen:List Tx) (r:List Tx) (i:Nat) (a:Option Addr) (c:Nat) (w:World) (j:St w B H F rows ln seen) (hT:Tg w i 9 r.length (.slice a r.length c) (r.map str)) (hrl:∀ x∈r,x.length≤70000) (hw:r.length=width (r.getD 0 [])) (q:fC F seen) (p:width (r.getD 0 [])=2→r.getD 0 []∉seen) (s:F.bM.length+F.aliases.length+F.a8.length+F.rules.length+rows.length < 70000) (hk:r.getD 0 []=fQ):cW Tryz.prog 61 (List.toArray [.pointer (some ⟨H.rb,0,none⟩),.slice a r.length c]) w (eN B H seen (bm H.eof F seen rows ln r) w) (eM B H (bm H.eof F seen rows ln r) w):=by
 have h:=mU B H F rows ln seen r i a c w j hT (by rw [hw,hk]; decide) hrl (by rw [hk]; decide) (q _ (by rw [hk]; decide) (p (by rw [hk]; decide)))
 rw [show bm H.eof F seen rows ln r=fU F rows ln r from by unfold bm; rw [hk]; rfl]
 exact h
theorem Cw (B:Nat) (H:bj) (F:aH) (rows:List Rw) (ln:Nat) (seen:List Tx) (r:List Tx) (i:Nat) (a:Option Addr) (c:Nat) (w:World) (j:St w B H F rows ln seen) (hT:Tg w i 9 r.length (.slice a r.length c) (r.map str)) (hrl:∀ x∈r,x.length≤70000) (hw:r.length=width (r.getD 0 [])) (q:fC F seen) (p:width (r.getD 0 [])=2→r.getD 0 []∉seen) (s:F.bM.length+F.aliases.length+F.a8.length+F.rules.length+rows.length < 70000) (hk:r.getD 0 []=gd):cW Tryz.prog 61 (List.toArray [.pointer (some ⟨H.rb,0,none⟩),.slice a r.length c]) w (eN B H seen (bm H.eof F seen rows ln r) w) (eM B H (bm H.eof F seen rows ln r) w):=by
 have h:=mU B H F rows ln seen r i a c w j hT (by rw [hw,hk]; decide) hrl (by rw [hk]; decide) (q _ (by rw [hk]; decide) (p (by rw [hk]; decide)))
 rw [show bm H.eof F seen rows ln r=fU F rows ln r from by unfold bm; rw [hk]; rfl]
 exact h
theorem CC (B:Nat) (H:bj) (F:aH) (rows:List Rw) (ln:Nat) (seen:List Tx) (r:List Tx) (i:Nat) (a:Option Addr) (c:Nat) (w:World) (j:St w B H F rows ln seen) (hT:Tg w i 9 r.length (.slice a r.length c) (r.map str)) (hrl:∀ x∈r,x.length≤70000) (hw:r.length=width (r.getD 0 [])) (q:fC F seen) (p:width (r.getD 0 [])=2→r.getD 0 []∉seen) (s:F.bM.length+F.aliases.length+F.a8.length+F.rules.length+rows.length < 70000) (hk:r.getD 0 []=gx):cW Tryz.prog 61 (List.toArray [.pointer (some ⟨H.rb,0,none⟩),.slice a r.length c]) w (eN B H seen (bm H.eof F seen rows ln r) w) (eM B H (bm H.eof F seen rows ln r) w):=by
 have h:=mU B H F rows ln seen r i a c w j hT (by rw [hw,hk]; decide) hrl (by rw [hk]; decide) (q _ (by rw [hk]; decide) (p (by rw [hk]; decide)))
 rw [show bm H.eof F seen rows ln r=fU F rows ln r from by unfold bm; rw [hk]; rfl]
 exact h
theorem CA (B:Nat) (H:bj) (F:aH) (rows:List Rw) (ln:Nat) (seen:List Tx) (r:List Tx) (i:Nat) (a:Option Addr) (c:Nat) (w:World) (j:St w B H F rows ln seen) (hT:Tg w i 9 r.length (.slice a r.length c) (r.map str)) (hrl:∀ x∈r,x.length≤70000) (hw:r.length=width (r.getD 0 [])) (s:fC F seen) (q:width (r.getD 0 [])=2→r.getD 0 []∉seen) (p:F.bM.length+F.aliases.length+F.a8.length+F.rules.length+rows.length < 70000) (hk:r.getD 0 []=gO):cW Tryz.prog 62 (List.toArray [.pointer (some ⟨H.rb,0,none⟩),.slice a r.length c]) w (eN B H seen (bm H.eof F seen rows ln r) w) (eM B H (bm H.eof F seen rows ln r) w):=by
 have h:=Dt B H F rows ln seen r i a c w j hT (by rw [hw,hk]; decide) hrl
 rw [show bm H.eof F seen rows ln r=gA F rows ln r from by unfold bm; rw [hk]; rfl]
 exact h
theorem CE (B:Nat) (H:bj) (F:aH) (rows:List Rw) (ln:Nat) (seen:List Tx) (r:List Tx) (i:Nat) (a:Option Addr) (c:Nat) (w:World) (j:St w B H F rows ln seen) (hT:Tg w i 9 r.length (.slice a r.length c) (r.map str)) (hrl:∀ x∈r,x.length≤70000) (hw:r.length=width (r.getD 0 [])) (s:fC F seen) (q:width (r.getD 0 [])=2→r.getD 0 []∉seen) (p:F.bM.length+F.aliases.length+F.a8.length+F.rules.length+rows.length < 70000) (hk:r.getD 0 []=fq):cW Tryz.prog 63 (List.toArray [.pointer (some ⟨H.rb,0,none⟩),.slice a r.length c]) w (eN B H seen (bm H.eof F seen rows ln r) w) (eM B H (bm H.eof F seen rows ln r) w):=by
 have h:=Fs B H F rows ln seen r i a c w j hT (by rw [hw,hk]; decide) hrl
 rw [show bm H.eof F seen rows ln r=gB H.eof F rows ln r from by unfold bm; rw [hk]; rfl]
 exact h
theorem Cv (B:Nat) (H:bj) (F:aH) (rows:List Rw) (ln:Nat) (seen:List Tx) (r:List Tx) (i:Nat) (a:Option Addr) (c:Nat) (w:World) (j:St w B H F rows ln seen) (hT:Tg w i 9 r.length (.slice a r.length c) (r.map str)) (hrl:∀ x∈r,x.length≤70000) (hw:r.length=width (r.getD 0 [])) (s:fC F seen) (q:width (r.getD 0 [])=2→r.getD 0 []∉seen) (p:F.bM.length+F.aliases.length+F.a8.length+F.rules.length+rows.length < 70000) (hk:r.getD 0 []=eY):cW Tryz.prog 64 (List.toArray [.pointer (some ⟨H.rb,0,none⟩),.slice a r.length c]) w (eN B H seen (bm H.eof F seen rows ln r) w) (eM B H (bm H.eof F seen rows ln r) w):=by
 have h:=xO B H F rows ln seen r i a c w j hT (by rw [hw,hk]; decide) hrl
 rw [show bm H.eof F seen rows ln r=ga H.eof F seen rows ln r from by unfold bm; rw [hk]; rfl]
 exact h
theorem CD (B:Nat) (H:bj) (F:aH) (rows:List Rw) (ln:Nat) (seen:List Tx) (r:List Tx) (i:Nat) (a:Option Addr) (c:Nat) (w:World) (j:St w B H F rows ln seen) (hT:Tg w i 9 r.length (.slice a r.length c) (r.map str)) (hrl:∀ x∈r,x.length≤70000) (hw:r.length=width (r.getD 0 [])) (s:fC F seen) (q:width (r.getD 0 [])=2→r.getD 0 []∉seen) (p:F.bM.length+F.aliases.length+F.a8.length+F.rules.length+rows.length < 70000) (hk:r.getD 0 []=e0):cW Tryz.prog 65 (List.toArray [.pointer (some ⟨H.rb,0,none⟩),.slice a r.length c]) w (eN B H seen (bm H.eof F seen rows ln r) w) (eM B H (bm H.eof F seen rows ln r) w):=by
 have h:=sP B H F rows ln seen r i a c w j hT (by rw [hw,hk]; decide) hrl p
 rw [show bm H.eof F seen rows ln r=eQ H.eof F rows ln r from by unfold bm; rw [hk]; rfl]
 exact h
theorem CG (B:Nat) (H:bj) (F:aH) (rows:List Rw) (ln:Nat) (seen:List Tx) (r:List Tx) (i:Nat) (a:Option Addr) (c:Nat) (w:World) (j:St w B H F rows ln seen) (hT:Tg w i 9 r.length (.slice a r.length c) (r.map str)) (hrl:∀ x∈r,x.length≤70000) (hw:r.length=width (r.getD 0 [])) (s:fC F seen) (q:width (r.getD 0 [])=2→r.getD 0 []∉seen) (p:F.bM.length+F.aliases.length+F.a8.length+F.rules.length+rows.length < 70000) (hk:r.getD 0 []=bU):cW Tryz.prog 65 (List.toArray [.pointer (some ⟨H.rb,0,none⟩),.slice a r.length c]) w (eN B H seen (bm H.eof F seen rows ln r) w) (eM B H (bm H.eof F seen rows ln r) w):=by
 have h:=sP B H F rows ln seen r i a c w j hT (by rw [hw,hk]; decide) hrl p
 rw [show bm H.eof F seen rows ln r=eQ H.eof F rows ln r from by unfold bm; rw [hk]; rfl]
 exact h
theorem um (B:Nat) (H:bj) (F:aH) (rows:List Rw) (ln:Nat) (seen:List Tx) (r:List Tx) (i:Nat) (a:Option Addr) (c:Nat) (w:World) (j:St w B H F rows ln seen) (hT:Tg w i 9 r.length (.slice a r.length c) (r.map str)) (hrl:∀ x∈r,x.length≤70000) (hw:r.length=width (r.getD 0 [])) (s:fC F seen) (q:width (r.getD 0 [])=2→r.getD 0 []∉seen) (p:F.bM.length+F.aliases.length+F.a8.length+F.rules.length+rows.length < 70000) {v:Value} (hv:dW (r.getD 0 [])=some v):∃ f:Nat,v= .agg [.int .i64 (width (r.getD 0 []):Nat),.func (.func f) #[] #[]].toArray∧aR Tryz.prog f∧cW Tryz.prog f (List.toArray [.pointer (some ⟨H.rb,0,none⟩),.slice a r.length c]) w (eN B H seen (bm H.eof F seen rows ln r) w) (eM B H (bm H.eof F seen rows ln r) w):=by
 unfold dW at hv
 by_cases hk:r.getD 0 []=bU
 · rw [if_pos hk] at hv; cases hv; exact ⟨_,by rw [hk]; rfl,sD,CG B H F rows ln seen r i a c w j hT hrl hw s q p hk⟩
 · rw [if_neg hk] at hv; clear hk
   by_cases hk:r.getD 0 []=e0
   · rw [if_pos hk] at hv; cases hv; exact ⟨_,by rw [hk]; rfl,sD,CD B H F rows ln seen r i a c w j hT hrl hw s q p hk⟩
   · rw [if_neg hk] at hv; clear hk
     by_cases hk:r.getD 0 []=eY
     · rw [if_pos hk] at hv; cases hv; exact ⟨_,by rw [hk]; rfl,zf,Cv B H F rows ln seen r i a c w j hT hrl hw s q p hk⟩
     · rw [if_neg hk] at hv; clear hk
       by_cases hk:r.getD 0 []=fq
       · rw [if_pos hk] at hv; cases hv; exact ⟨_,by rw [hk]; rfl,ze,CE B H F rows ln seen r i a c w j hT hrl hw s q p hk⟩
       · rw [if_neg hk] at hv; clear hk
         by_cases hk:r.getD 0 []=gO
         · rw [if_pos hk] at hv; cases hv; exact ⟨_,by rw [hk]; rfl,zd,CA B H F rows ln seen r i a c w j hT hrl hw s q p hk⟩
         · rw [if_neg hk] at hv; clear hk
           by_cases hk:r.getD 0 []=gx
           · rw [if_pos hk] at hv; cases hv; exact ⟨_,by rw [hk]; rfl,mi,CC B H F rows ln seen r i a c w j hT hrl hw s q p hk⟩
           · rw [if_neg hk] at hv; clear hk
             by_cases hk:r.getD 0 []=gd
             · rw [if_pos hk] at hv; cases hv; exact ⟨_,by rw [hk]; rfl,mi,Cw B H F rows ln seen r i a c w j hT hrl hw s q p hk⟩
             · rw [if_neg hk] at hv; clear hk
               by_cases hk:r.getD 0 []=fQ
               · rw [if_pos hk] at hv; cases hv; exact ⟨_,by rw [hk]; rfl,mi,Cz B H F rows ln seen r i a c w j hT hrl hw s q p hk⟩
               · rw [if_neg hk] at hv; clear hk
                 by_cases hk:r.getD 0 []=fL
                 · rw [if_pos hk] at hv; cases hv; exact ⟨_,by rw [hk]; rfl,mi,Cy B H F rows ln seen r i a c w j hT hrl hw s q p hk⟩
                 · rw [if_neg hk] at hv; clear hk
                   by_cases hk:r.getD 0 []=fG
                   · rw [if_pos hk] at hv; cases hv; exact ⟨_,by rw [hk]; rfl,mi,CB B H F rows ln seen r i a c w j hT hrl hw s q p hk⟩
                   · rw [if_neg hk] at hv; clear hk
                     by_cases hk:r.getD 0 []=fu
                     · rw [if_pos hk] at hv; cases hv; exact ⟨_,by rw [hk]; rfl,zc,CH B H F rows ln seen r i a c w j hT hrl hw s q p hk⟩
                     · rw [if_neg hk] at hv; clear hk
                       by_cases hk:r.getD 0 []=e9
                       · rw [if_pos hk] at hv; cases hv; exact ⟨_,by rw [hk]; rfl,zb,CF B H F rows ln seen r i a c w j hT hrl hw s q p hk⟩
                       · rw [if_neg hk] at hv; clear hk
                         by_cases hk:r.getD 0 []=eZ
                         · rw [if_pos hk] at hv; cases hv; exact ⟨_,by rw [hk]; rfl,za,Cx B H F rows ln seen r i a c w j hT hrl hw s q p hk⟩
                         · rw [if_neg hk] at hv; clear hk
                           cases hv
theorem ui {s:Tx} (hv:dW s=none):width s=0:=by
 unfold dW at hv
 by_cases J:s=bU
 · rw [if_pos J] at hv; cases hv
 · rw [if_neg J] at hv
   by_cases E:s=e0
   · rw [if_pos E] at hv; cases hv
   · rw [if_neg E] at hv
     by_cases a:s=eY
     · rw [if_pos a] at hv; cases hv
     · rw [if_neg a] at hv
       by_cases G:s=fq
       · rw [if_pos G] at hv; cases hv
       · rw [if_neg G] at hv
         by_cases q:s=gO
         · rw [if_pos q] at hv; cases hv
         · rw [if_neg q] at hv
           by_cases C:s=gx
           · rw [if_pos C] at hv; cases hv
           · rw [if_neg C] at hv
             by_cases c:s=gd
             · rw [if_pos c] at hv; cases hv
             · rw [if_neg c] at hv
               by_cases p:s=fQ
               · rw [if_pos p] at hv; cases hv
               · rw [if_neg p] at hv
                 by_cases j:s=fL
                 · rw [if_pos j] at hv; cases hv
                 · rw [if_neg j] at hv
                   by_cases A:s=fG
                   · rw [if_pos A] at hv; cases hv
                   · rw [if_neg A] at hv
                     by_cases M:s=fu
                     · rw [if_pos M] at hv; cases hv
                     · rw [if_neg M] at hv
                       by_cases I:s=e9
                       · rw [if_pos I] at hv; cases hv
                       · rw [if_neg I] at hv
                         by_cases i:s=eZ
                         · rw [if_pos i] at hv; cases hv
                         · rw [if_neg i] at hv
                           unfold width dK; simp [i,I,M,A,j,p,c,C,q,G,a,E,J]
theorem qj (s:Tx):dW s=none∨∃ (wd f:Nat),dW s=some (Value.agg #[.int .i64 (wd:Nat),.func (.func f) #[] #[]])∧width s=wd∧wd≠0:=by
 by_cases a:s=bU
 · exact .inr ⟨4,65,by unfold dW; rw [if_pos a],by rw [a]; decide,by decide⟩
 by_cases c:s=e0
 · exact .inr ⟨4,65,by unfold dW; rw [if_neg a,if_pos c],by rw [c]; decide,by decide⟩
 by_cases i:s=eY
 · exact .inr ⟨2,64,by unfold dW; rw [if_neg a,if_neg c,if_pos i],by rw [i]; decide,by decide⟩
 by_cases j:s=fq
 · exact .inr ⟨2,63,by unfold dW; rw [if_neg a,if_neg c,if_neg i,if_pos j],by rw [j]; decide,by decide⟩
 by_cases p:s=gO
 · exact .inr ⟨2,62,by unfold dW; rw [if_neg a,if_neg c,if_neg i,if_neg j,if_pos p],by rw [p]; decide,by decide⟩
 by_cases q:s=gx
 · exact .inr ⟨2,61,by unfold dW; rw [if_neg a,if_neg c,if_neg i,if_neg j,if_neg p,if_pos q],by rw [q]; decide,by decide⟩
 by_cases A:s=gd
 · exact .inr ⟨2,61,by unfold dW; rw [if_neg a,if_neg c,if_neg i,if_neg j,if_neg p,if_neg q,if_pos A],by rw [A]; decide,by decide⟩
 by_cases C:s=fQ
 · exact .inr ⟨2,61,by unfold dW; rw [if_neg a,if_neg c,if_neg i,if_neg j,if_neg p,if_neg q,if_neg A,if_pos C],by rw [C]; decide,by decide⟩
 by_cases E:s=fL
 · exact .inr ⟨2,61,by unfold dW; rw [if_neg a,if_neg c,if_neg i,if_neg j,if_neg p,if_neg q,if_neg A,if_neg C,if_pos E],by rw [E]; decide,by decide⟩
 by_cases G:s=fG
 · exact .inr ⟨2,61,by unfold dW; rw [if_neg a,if_neg c,if_neg i,if_neg j,if_neg p,if_neg q,if_neg A,if_neg C,if_neg E,if_pos G],by rw [G]; decide,by decide⟩
 by_cases I:s=fu
 · exact .inr ⟨2,60,by unfold dW; rw [if_neg a,if_neg c,if_neg i,if_neg j,if_neg p,if_neg q,if_neg A,if_neg C,if_neg E,if_neg G,if_pos I],by rw [I]; decide,by decide⟩
 by_cases J:s=e9
 · exact .inr ⟨2,59,by unfold dW; rw [if_neg a,if_neg c,if_neg i,if_neg j,if_neg p,if_neg q,if_neg A,if_neg C,if_neg E,if_neg G,if_neg I,if_pos J],by rw [J]; decide,by decide⟩
 by_cases M:s=eZ
 · exact .inr ⟨2,58,by unfold dW; rw [if_neg a,if_neg c,if_neg i,if_neg j,if_neg p,if_neg q,if_neg A,if_neg C,if_neg E,if_neg G,if_neg I,if_neg J,if_pos M],by rw [M]; decide,by decide⟩
 refine .inl ?_
 unfold dW
 rw [if_neg a,if_neg c,if_neg i,if_neg j,if_neg p,if_neg q,if_neg A,if_neg C,if_neg E,if_neg G,if_neg I,if_neg J,if_neg M]
end Go.Hb.ry
end
section
set_option maxRecDepth 20000
set_option maxHeartbeats 1000000
namespace Go.Hb.m4
open Go.Hb.cU
open Go.Proofs
open Go.Hb.fY Go.Hb.fX
theorem Cq {α:Type} {l:List α} {i:Nat} {d:α} (h:i < l.length):l.getD i d∈l:=by
 rw [List.getD_eq_getElem?_getD,List.getElem?_eq_getElem h]; exact List.getElem_mem h
def ff (n:Nat) (ls:List (List UInt8)):List (Nat×List UInt8):=(ls.zipIdx n).map fun q=>(q.2,q.1)
theorem Ej (n:Nat) (l:List UInt8) (ls:List (List UInt8)):ff n (l::ls)=(n,l)::ff (n+1) ls:=by simp [ff,List.zipIdx_cons]
theorem Ek (n:Nat):ff n []= []:=rfl
theorem qF (n:Nat) (ls:List (List UInt8)):(ff n ls).map Prod.snd=ls:=by
 unfold ff; rw [List.map_map]; exact List.zipIdx_map_fst n ls
theorem vb (n:Nat) (ls:List (List UInt8)):(ff n ls).length=ls.length:=by simp [ff]
def nN (x:Nat×List UInt8):Array Value:= #[.int .i64 x.1,str x.2]
theorem qE {ls:List (List UInt8)} {n:Nat} {pre:List (Nat×List UInt8)} {x:Nat×List UInt8} {rest:List (Nat×List UInt8)} (h:ff n ls=pre++x::rest):pre.length < ls.length∧x.1=n+pre.length∧ls=pre.map Prod.snd++x.2::rest.map Prod.snd:=by
 have h1:=congrArg List.length h
 rw [vb,List.length_append,List.length_cons] at h1
 have h2:=congrArg (List.map Prod.snd) h
 rw [qF,List.map_append,List.map_cons] at h2
 refine ⟨by omega,?_,h2⟩
 have h3:=congrArg (fun l=>l[pre.length]?) h
 simp only [ff,List.getElem?_map,List.getElem?_zipIdx,List.getElem?_append_right (Nat.le_refl _),Nat.sub_self,List.getElem?_cons_zero] at h3
 cases h4:ls[pre.length]? with
 | none=>rw [h4] at h3; cases h3
 | some q=>rw [h4] at h3; cases h3; rfl
theorem td (s:List UInt8) (w:World):
 aT Tryz.prog 56 (List.toArray [str s]) w (fun v w'=> ∃ b,v= .func (.func 88) #[] #[aW b]∧w.heap.size≤b∧w'.heap[b]? =some (.cells [str s].toArray 9 (0,0))∧Wk w w'):=by
 refine enter Tryz.func56 rfl Tryz.ntmps56 rfl ?_
 refine ae (fun _ a=>(e (yi rfl rfl fun i w1 q j hB1=>aj (((a _ _ (ae (fun _ c=> ?_))))))))
 exact p D0 (aj (((c _ _ (rt (f1 rfl rfl (⟨i,rfl,by omega,hB1,j.md⟩)))))))
theorem A4 (s:List UInt8) (b:Nat) (hs:s.length≤65536) (l:Nat) (a:List (Nat×List UInt8)→World→Prop) (w:World) (h0:a [] w) (an:∀ pre W,a pre W→W.heap[b]? =some (.cells [str s].toArray 9 (0,0))) (bI:∀ pre W1 A,a pre W1→Wk W1 A→a pre A) (hy:∀ pre x rest W1,(ff 1 (aC s))=pre++x::rest→a pre W1→YieldAt Fence.wide 0 Tryz.prog l (nN x) W1 fun e W'=>e= .returned (.bool true)∧a (pre++ [x]) W'):
 aT Tryz.prog 88 (List.toArray [.func (.yield l) #[] #[],aW b]) w (fun v w'=>a (ff 1 (aC s)) w'):=by
 have hb0:=an _ _ h0
 refine enter Tryz.func88 rfl Tryz.ntmps88 rfl ?_
 refine sq (fun _ I=>ae (fun _ M=>(p (ld bW rfl ((aU hb0).trans rfl)) (p (bY u9 rfl rfl) (p (gt rfl rfl) (ak ((M _ _ ?_))))))))
 refine cd rfl (fun h=>absurd h (by omega)) (fun hc10=> ?_)
 refine aE (tn (I _ _ (ae (fun _ O=>(p (ld bW rfl ((aU hb0).trans rfl)) (e (cl zm (Gy s jP _ (by omega) (by decide)) rfl fun dw w12 ah=> ?_)))))))
 obtain ⟨rfl,hE12⟩:=ah
 refine aj (((O _ _ (ae (fun _ V=>(aj (((V _ _ ?_)))))))))
 refine aw (lp (fun C j wI=> ∃ (r:List UInt8) (pre:List (Nat×List UInt8)),(r.length≤s.length)∧((ff 1 (aC s))=pre++ff (pre.length+1) (b8 [] r))∧(a pre wI)∧(pre.length≤s.length)∧(j 0= .func (.yield l) #[] #[])∧(j 3=str r)∧(j 4=U (pre.length+1))∧(r.length=C)) _ ⟨fI s,[],(mX s),rfl,(bI _ _ _ h0 hE12),(Nat.zero_le _),rfl,rfl,(iv (by first | rfl | (rw [List.length_append]; rfl))),rfl⟩ ?_)
 rintro C j wI ⟨r,pre,av,G,E,hpl,ap,aq,ar,rfl⟩
 refine fx 0 ap (fx 3 aq (fx 4 ar (sq (fun _ Y=>ae (fun _ Z=>(ag (str r) (p (lJ rfl rfl) (ak ((Z _ _ ?_))))))))))
 refine cd rfl (fun i=> ?_) (fun i=> ?_)
 have q:(ff 1 (aC s))=pre++(pre.length+1,ed (gK 10 r))::ff (pre.length+2) (b8 [] (iz 10 r)):=by rw [G,DN i,Ej]
 have hrl:=At (c:=10) i
 have hal:=Ap 10 r
 refine aE (tn (Y _ _ (sq (fun _ aa=>aw (ae (fun _ ab=>(ag (str r) (e (cl zn (Au r 10 _ (by omega)) rfl fun ax w19 ai=> ?_)))))))))
 obtain ⟨rfl,ad⟩:=ai
 refine p mv (p (xt rfl rfl) (p (xt rfl rfl) (p (xt rfl rfl) (p au (p au (p au (nl ?_)))))))
 refine tn (ab _ _ (ae (fun _ ac=>(p mv (aj (((ac _ _ (sq (fun _ J=> ?_))))))))))
 refine Fy ?_
 refine py rfl (az (.func (.yield l) #[] #[]) rfl) ?_
 refine py rfl (az (U (pre.length+1)) rfl) ?_
 refine py rfl mv ?_
 refine ey rfl (cl zo (GA (gK 10 r) _ (by omega)) rfl fun ay aA al=> ?_)
 obtain ⟨rfl,hE27⟩:=al
 have hJ27:=bI _ _ _ E (Md.trans ad hE27)
 refine G8 rfl rfl (hy pre (pre.length+1,ed (gK 10 r)) _ _ q hJ27) (fun w28 am=> ?_)
 refine py rfl (no rfl) ?_
 refine Ed ?_
 refine tn (J _ _ (cf (rfl) (aE (bn (tn (aa _ _ (rg rfl (ag (U (pre.length+1)) (p (bd ((pre.length+2:Nat):Int) rfl rfl (aO (by omega) (by omega))) ?_)))))))))
 exact aj (((⟨_,by omega,iz 10 r,pre++ [(pre.length+1,ed (gK 10 r))],(by omega),((by rw [q,List.append_assoc,List.length_append]; rfl)),am,((by have h1:=qE q; have h2:=ib s; rw [List.length_append,List.length_singleton]; omega)),rfl,rfl,(iv (by first | rfl | (rw [List.length_append]; rfl))),rfl⟩)))
 refine ext (te _ (te _ (be (f0 rfl ?_))))
 show a (ff 1 (aC s)) wI
 have ao:r= []:=Decidable.of_not_not i
 rw [G,ao,n5,Ek,List.append_nil]
 exact E
theorem tc (s:List UInt8) (b:Nat) (hs:s.length≤65536):rz Tryz.prog 88 #[.pointer (some ⟨b,0,none⟩)] nN (ff 1 (aC s)) (fun W=>W.heap[b]? =some (.cells [str s].toArray 9 (0,0))):=
 fun l a W h0 c bI hy=>Calls.mono (A4 s b hs l a W h0 c bI hy) fun e w' ⟨v,he,i⟩=>⟨⟨v,he⟩,i⟩
theorem wa (s:List UInt8) (w:World) (hs:s.length≤1048576):
 aT Tryz.prog 30 (List.toArray [str s]) w (fun v w'=>(∃ a,v= .tuple #[a,.int .i64 (if 65536 < s.length then 10 else 0)]∧(if 65536 < s.length then a= .slice none 0 0 else World.ownsRow w' w.heap.size 9 1 (a) ((aC s)).length (((aC s)).map str)))∧Wk w w'):=by
 refine tp [] Tryz.func30 rfl Tryz.ntmps30 rfl ?_
 refine dZ ?_
 refine eI ?_
 refine rg rfl (p au (p au (nl (ef ?_))))
 refine dZ ?_
 refine dZ ?_
 refine eI ?_
 refine rg rfl (p (az (str s) rfl) (p (bY u9 rfl rfl) (p (gt rfl rfl) (nl (ef ?_)))))
 refine eI ?_
 refine cd rfl (fun al=> ?_) (fun al=> ?_)
 refine sq (fun aq aj=>rg rfl (p au (p au (nl (tn (aj _ _ (rt (qS ?_))))))))
 refine tq rfl rfl rfl ?_
 have hl:65536 < s.length:=by omega
 exact ⟨⟨.slice none 0 0,by show Value.tuple #[.slice none 0 0,.int .i64 10]=_; rw [if_pos hl],by rw [if_pos hl]⟩,Md.refl _ _⟩
 refine aE (ef ?_)
 refine dZ ?_
 refine eI ?_
 refine rg rfl (e (fZ He fun ab w4 ax ak ad=>nl (ef ?_)))
 refine dZ ?_
 refine dZ ?_
 refine eI ?_
 refine rg rfl (p (az (str s) rfl) (e (cl sB (td s _) rfl fun v11 w11 hR11=> ?_)))
 obtain ⟨U,rfl,hb11,ac,ae⟩:=hR11
 have E:Wk w w11:=Md.trans ak.md ae
 have hb4x:=ae.aw ad
 have hb11l:=(Array.getElem?_eq_some_iff.1 ac).1
 have aA:ab < w4.heap.size:=(Array.getElem?_eq_some_iff.1 ad).1
 have hl:s.length≤65536:=by omega
 refine nl (ef ?_)
 apply vH (nN) ((ff 1 (aC s))) (fun W=>W.heap[U]? =some (.cells [str s].toArray 9 (0,0))) (fun pre q=> ∃ v,q.heap[ab]? =some (.cells [v].toArray 48 (0,0))∧World.ownsRow q w11.heap.size 9 1 v pre.length ((pre.map Prod.snd).map str)∧q.heap[U]? =some (.cells [str s].toArray 9 (0,0))∧w11.heap.size≤q.heap.size∧Wk w q) rfl sI (fun _=>rfl) (tc s U hl) (⟨.slice none 0 0,hb4x,World.ownsRow_nil _ _ _ _,ac,Nat.le_refl _,E⟩) (fun _ _ ⟨_,_,_,h,_⟩=>h) (fun pre A C F ⟨v,h1,h2,h3,h5,h4⟩ hm M=>⟨v,oH h1 hm M,wg h2 hm M,oH h3 hm M,Nat.le_trans h5 hm.size,wh h4 hm E.size M⟩)
 intro l x q K G
 exact rg rfl (p (bD (str x.2) rfl) (nl (tn (G))))
 intro l pre x rest q am Y
 obtain ⟨v,O,j,Z,hsz,V⟩:=Y
 obtain ⟨hpl,aB,aD⟩:=qE am
 have hll:=ib s
 have hsR:=(Array.getElem?_eq_some_iff.1 Z).1
 refine aw (rg rfl (p (ld kA rfl ((aU O).trans rfl)) (p mv (e (gq cw rfl rfl fun ar w16 hb16 i ag=> ?_)))))
 have ah:Wk w w16:=Md.trans V i.md
 have hb16:=i.md.aw O
 refine e (ap cw (aJ j i.md) rfl (Nat.le_trans hsz i.md.size) rfl (ao.dz ag) (rfl) (rfl) (by omega) (by omega) fun an w17 aa I hz17 ay=> ?_)
 have hE17:=Wk.own ah (aJ j i.md) I E.size
 have hbt17:=I.aw (i.md.aw Z) (fun h=>by have :=c4 (aJ j i.md) h; omega)
 have hb17:=I.aw hb16 (fun h=>cG (aJ j i.md) hb16 (by decide) h)
 refine e (da AB rfl rfl (dG aa) hb17 (by simp) fun w6 J hB6=> ?_)
 have ai:Wk w w6:=Md.trans' hE17 J (fun k hk h=>by omega)
 exact nl (bn (⟨(fA.wk i.md).trans ((fA.md I (mL (aJ j i.md))).trans (fA.md J (fun k hk=>⟨_,_,_,hk ▸ hb17⟩))),an,hB6,bF (by rw [List.map_append,List.map_append,List.length_append]; exact aa) J (fun k hk h=>cG aa hb17 (by decide) (h ▸ hk)),J.aw hbt17 (fun h=>by omega),Nat.le_trans hsz (Nat.le_trans i.md.size (Nat.le_trans I.size J.size)),ai⟩))
 intro D q av Y G
 obtain ⟨v,O,j,Z,hsz,V⟩:=Y
 have hlt:=(Array.getElem?_eq_some_iff.1 G).1
 refine ef ?_
 refine dZ ?_
 refine eI ?_
 refine rg rfl (p (ld kA rfl ((aU O).trans rfl)) (p au (p au (nl (ef ?_)))))
 refine qX ?_
 refine tt rfl rfl rfl G ?_
 have hl:¬65536 < s.length:=by omega
 rw [qF,vb] at j
 exact ⟨⟨v,by show Value.tuple #[v,.int .i64 0]=_; rw [if_neg hl],by rw [if_neg hl]; exact gk (bF j (lI _ _ _) (fun k hk h=>by obtain ⟨c,e,z,h1⟩:=mL j k hk; rw [h,G] at h1; cases h1)) E.size⟩,Md.trans' V (lI _ _ _) (fun k hk h=>by have :=E.size; omega)⟩
end Go.Hb.m4
end
