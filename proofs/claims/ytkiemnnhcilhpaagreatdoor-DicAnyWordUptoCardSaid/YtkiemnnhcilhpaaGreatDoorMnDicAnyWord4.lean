/-
  Walks and plain laws that the law rests on, laid together. No conditions but those that each theorem names.
-/
import Derived.Test.YtkiemnnhcilhpaaGreatDoorMnDicAnyWord3
set_option linter.unusedVariables false
section
set_option maxRecDepth 20000
set_option maxHeartbeats 1000000
namespace Go.Hb.kP
open Go.Hb.cJ
open Go.Proofs
open Go.Hb.fQ
theorem sw {h:Array Obj} {b:Nat} {f:UInt8→Bool} (a:a9 h b (bU f)) (c:UInt8):Hb.ay h b (0 +((c.toNat / 64:Nat):Int).toNat*1)=some (.int .u64 (cj f (c.toNat / 64))):=by
 have hc:=UInt8.toNat_lt c
 rw [a.ay,show 0 +((c.toNat / 64:Nat):Int).toNat*1=c.toNat / 64 from by omega]; exact o4 f (by omega)
theorem zM {h:Array Obj} {b:Nat} {f:UInt8→Bool} {c:UInt8} (a:a9 h b ((bU f).set (0 +((c.toNat / 64:Nat):Int).toNat*1) (.int .u64 ((cj f (c.toNat / 64) ||| 2 ^ (c.toNat % 64):Nat):Int)))):a9 h b (bU (fun x=>f x || decide (x=c))):=by
 rw [show 0 +((c.toNat / 64:Nat):Int).toNat*1=c.toNat / 64 from by omega,zK] at a; exact a
theorem zL {f g:UInt8→Bool} (h:∀ b,f b=g b):bU f=bU g:=by rw [show f=g from funext h]
theorem Cy {l:List UInt8} {i:Nat} (h:i < l.length) (x:UInt8):(decide (x∈l.take i) || decide (x=l.getD i 0))=decide (x∈l.take (i+1)):=by
 rw [gU l i 0 h,← Bool.decide_or]
 exact decide_eq_decide.2 (by rw [List.mem_append,List.mem_singleton])
theorem qp {w:World} {B e n cp i:Nat} {a:Option Addr} {l:List UInt8} (h:w.ownsRow B e 1 (.slice a n cp) n (U8 l)) (hi:i≤n) (hn:0 < n):w.ownsRow B e 1 (.slice a i cp) i (U8 (l.take i)):=by
 have ha:a≠none:=by
  rintro rfl
  rcases h.2 with ⟨_,h5⟩ | ⟨g,cap,cur,h4,_⟩
  · omega
  · simp at h4
 have :=uU h hi ha
 rw [Nat.mul_one] at this
 unfold U8 at*
 rwa [List.map_take]
theorem D5 {w:World} {B e n cp:Nat} {a:Option Addr} {xs:List Value} (h:w.ownsRow B e 1 (.slice a n cp) n xs) (hn:0 < n):∃ gg,a=some ⟨gg,0,none⟩:=by
 rcases h.2 with ⟨_,h5⟩ | ⟨g,cap,cur,h4,_⟩
 · omega
 · simp only [Value.slice.injEq] at h4; exact ⟨g,h4.1⟩
theorem F6 {w:World} {B e n cp j:Nat} {a:Option Addr} {l:List UInt8} (h:w.ownsRow B e 1 (.slice a n cp) n (U8 l)):ak w.heap (dj a cp j 1) (U8 (l.drop j)):=by
 have h2:=(aB h).2.drop (cap:=cp) (k:=j) (size:=1) (by have h1:=h.1; have h3:=(aB h).1; omega)
 rw [Nat.mul_one] at h2
 unfold U8 at*
 rwa [List.map_drop]
theorem qH {w:World} {B e n:Nat} {v:Value} {l:List UInt8} (h:w.ownsRow B e 1 v n (U8 l)):l.length=n:=by have :=h.1; rw [mT] at this; omega
theorem u4 (b:Nat) (c:UInt8) (f:UInt8→Bool) (w:World) (i:a9 w.heap b (bU f)):
 aT Tryz.prog 136 (List.toArray [aU b,.int .u8 c.toNat]) w (fun v w'=>v= .tuple #[]∧a9 w'.heap b (bU (fun x=>f x || decide (x=c)))∧Md (fun q=>q=b) w w'):=by
 have hc8:=UInt8.toNat_lt c
 refine enter Tryz.func136 rfl Tryz.ntmps136 rfl ?_
 have a:(fun w'=>Wk w w') w.drew:=(Md.refl _ _).drew
 refine da (fun w'=>Wk w w') 12 rfl wide a (aJ 0 rfl (aU b) a (aJ 1 rfl (.int .u8 c.toNat) a (a5 2 rfl (fun _=>shr rfl rfl (by decide) (vw c)) (fun _=>a) (a5 3 rfl (fun _=>nc rfl) (fun _=>a) (a5 4 rfl (fun _=>iu kn rfl rfl (by omega)) (fun _=>a) (cT 5 rfl (fun w' s=>ld kT rfl (Wk.ay s (sw i c))) a (aJ 6 rfl (.int .u8 c.toNat) a ?_)))))))
 refine a5 7 rfl (fun _=>m4 rfl rfl (rv c)) (fun _=>a) (a5 8 rfl (fun _=>shl rfl rfl (by omega) (Fc (by omega))) (fun _=>a) (a5 9 rfl (fun _=>rE rfl rfl (D1 (lL _ _) (Nat.pow_lt_pow_right (by decide) (by omega)))) (fun _=>a) (a5 10 rfl (fun _=>nc rfl) (fun _=>a) (a5 11 rfl (fun _=>iu kn rfl rfl (by omega)) (fun _=>a) (bJ 12 rfl (by kernel_rfl) (by kernel_rfl) (st Ah rfl rfl (rfl) (a.B i) (by rw [nj]; omega) fun A p j=> ?_))))))
 have hB0:=zM j
 refine c9 (by kernel_rfl) ?_
 refine f0 rfl ?_
 exact ⟨rfl,hB0,Md.trans (Md.refl _ _).drew p⟩
theorem B9 (f:UInt8→Bool) (c:UInt8) (w:World):
 aT Tryz.prog 153 (List.toArray [.agg (bU (f)).toArray,.int .u8 c.toNat]) w (fun v w'=>v= .bool (f c)∧Wk w w'):=by
 have hc8:=UInt8.toNat_lt c
 refine enter Tryz.func153 rfl Tryz.ntmps153 rfl ?_
 refine ab (fun _ a=>(e (ig rfl fun q s hb2 j hB2=>ag (((a _ _ (ab (fun _ i=> ?_))))))))
 refine ae (.int .u8 c.toNat) (p (shr rfl rfl (by decide) (vw c)) (p (iu kn rfl rfl (by omega)) (p (ld kT rfl (sw hB2 c)) (ae (.int .u8 c.toNat) (p (m4 rfl rfl (rv c)) (p (shr rfl rfl (by omega) (Fi _ (by omega))) (p (m4 rfl rfl (xu (Nat.lt_of_le_of_lt (Nat.div_le_self _ _) (lL _ _)))) ?_)))))))
 exact p (bo rfl rfl) (ag (((i _ _ (rt (f1 rfl rfl (⟨congrArg Value.bool (Gq f c),j.md⟩)))))))
theorem qo (f:UInt8→Bool) (w:World):
 aT Tryz.prog 135 (List.toArray [.agg (bU (f)).toArray]) w (fun v w'=>v= .agg (bU (fun x=> !f x)).toArray∧Wk w w'):=by
 refine enter Tryz.func135 rfl Tryz.ntmps135 rfl ?_
 refine ab (fun _ i=>(e (ig rfl fun C w1 G c hB1=>e (al kM fun E I hb2 a hB2=>aj ((i _ _ (ab (fun _ q=> ?_))))))))
 refine p (iu kn rfl rfl (by omega)) (p (ld kT rfl ((a.md.B hB1).ay 0)) (p (nk rfl) (p (iu kn rfl rfl (by omega)) (p (ld kT rfl ((a.md.B hB1).ay 1)) (p (nk rfl) (p (iu kn rfl rfl (by omega)) (p (ld kT rfl ((a.md.B hB1).ay 2)) ?_)))))))
 refine p (nk rfl) (p (iu kn rfl rfl (by omega)) (p (ld kT rfl ((a.md.B hB1).ay 3)) (p (nk rfl) (p (rD (ps:= [(0,.int .u64 (cj (fun x=> !f x) 0:Nat)),(1,.int .u64 (cj (fun x=> !f x) 1:Nat)),(2,.int .u64 (cj (fun x=> !f x) 2:Nat)),(3,.int .u64 (cj (fun x=> !f x) 3:Nat))]) (L:= [.int .u64 (cj (fun x=> !f x) 0:Nat),.int .u64 (cj (fun x=> !f x) 1:Nat),.int .u64 (cj (fun x=> !f x) 2:Nat),.int .u64 (cj (fun x=> !f x) 3:Nat)]) rA rfl (rfl)) (e (b0 ju rfl (vs:=bU (fun x=> !f x)) rfl rfl rfl hB2 (by decide) fun w3 A s=>aj ((q _ _ ?_))))))))
 exact rt (l5 rfl (c7 rfl fJ rfl (fun j hj=>by rw [Nat.zero_add]; exact s.ay j)) (⟨rfl,Md.trans' (Md.trans c.md a.md) A (fun k hk h=>by have :=c.md.size; omega)⟩))
theorem tN (f:UInt8→Bool) (c:UInt8) (ci:Int) (w:World) (a:(c.toNat:Int)=ci):aT Tryz.prog 153 (List.toArray [.agg (bU (f)).toArray,.int .u8 ci]) w (fun v w'=>v= .bool (f c)∧Wk w w'):=by
 subst a; exact B9 f c w
theorem rI (f:UInt8→Bool) (w:World):
 aT Tryz.prog 152 (List.toArray [.agg (bU (f)).toArray]) w (fun v w'=>World.ownsRow w' w.heap.size 5 1 (v) ((bytesOf f)).length (U8 ((bytesOf f)))∧Wk w w'):=by
 refine enter Tryz.func152 rfl Tryz.ntmps152 rfl ?_
 refine ab (fun _ O=>(e (ig rfl fun al w1 aD G hB1=>ag (((O _ _ (ab (fun _ V=> ?_))))))))
 refine ag (((V _ _ (sq (fun _ Y=>ab (fun _ Z=>(p mv (nl ?_))))))))
 refine tn (Z _ _ (au (lp (fun J E wI=> ∃ (i:Nat) (a:Value),(i≤256)∧(World.ownsRow wI w1.heap.size 5 1 (a) ((jr f i)).length (U8 ((jr f i))))∧(Wk w1 wI)∧(E 1=aU al)∧(E 3=a)∧(E 5=U i)∧(256 - i=J)) _ ⟨0,.slice none 0 0,(by omega),(World.ownsRow_nil _ _ _ _),(Md.refl _ _),rfl,rfl,rfl,rfl⟩ ?_)))
 rintro J E wI ⟨i,a,hi,C,q,ar,av,ax,rfl⟩
 refine fx 1 ar (fx 3 av (fx 5 ax ?_))
 have aC:Wk w wI:=Md.trans G.md q
 have hbl:=lV f i
 have hs1:=q.size
 refine ab (fun _ aa=>(p (lt rfl rfl) (aj ((aa _ _ (sq (fun _ ac=>cd rfl (fun ao=> ?_) (fun ao=> ?_))))))))
 refine aA (tn (ac _ _ (sq (fun _ s=>au (ab (fun _ ah=>(ae (U i) (p (bw (U i) rfl) ?_))))))))
 refine aj ((ah _ _ (ab (fun _ ai=>(p (dp fJ rfl (rfl) (fun j hj=>by rw [Nat.zero_add]; exact (q.B hB1).ay j)) (ae (U i) (p (ik u5 kK rfl (qP (by omega))) (e (cl rW (tN f (UInt8.ofNat i) _ _ (vU i (by omega))) rfl fun v11 w11 hR11=> ?_)))))))))
 obtain ⟨rfl,c⟩:=hR11
 refine aj ((ai _ _ (cb rfl (fun I=> ?_) (fun I=> ?_))))
 refine rg rfl (ae (a) (ae (U i) (p (ik u5 kK rfl (qP (by omega))) (e (gj gR rfl rfl fun aB w15 aF A am=>e (ap gR (aE (aE C c) A.md) rfl (by have :=c.size; have :=A.md.size; omega) rfl (ak.ea am) (rfl) (rfl) (by omega) (by omega) fun az w16 M hM16 hz16 aG=> ?_))))))
 rw [← vU i (by omega)] at M
 have ho16x:=qq M
 have an:Wk w1 w16:=Wk.own (Md.trans (Md.trans q c) A.md) (aE (aE C c) A.md) hM16 (Nat.le_refl _)
 refine p aw (nl (bn (tn (s _ _ (rg rfl (p (ad rfl rfl (bp (by omega))) (p mv (nl ?_))))))))
 exact tn (⟨_,by omega,i+1,az,(by omega),((by rw [rH,if_pos I]; exact ho16x)),an,rfl,rfl,rfl,rfl⟩)
 refine aA (bn (tn (s _ _ (rg rfl (p (ad rfl rfl (bp (by omega))) (p mv (nl (tn ?_))))))))
 exact ⟨_,by omega,i+1,a,(by omega),((by rw [rH,if_neg (by rw [I]; exact Bool.noConfusion),List.append_nil]; exact aE C c)),(Md.trans q c),rfl,rfl,rfl,rfl⟩
 refine ext (te _ (te _ (be (tn (Y _ _ (ab (fun _ s=>(ae (a) ?_))))))))
 refine p (bw (a) rfl) (aj ((s _ _ (rt (f1 rfl rfl ?_)))))
 have aq:i=256:=by omega
 subst aq
 exact ⟨fX C G.md.size,Md.trans G.md q⟩
theorem zQ (s:List UInt8) (w:World) (hs:s.length≤1048576):
 aT Tryz.prog 151 (List.toArray [str s]) w (fun v w'=>v= .agg (bU (fun x=>decide (x∈s))).toArray∧Wk w w'):=by
 refine enter Tryz.func151 rfl Tryz.ntmps151 rfl ?_
 refine ab (fun _ V=>(e (al kM fun A aE hb2 M hB2=>aj ((V _ _ (ab (fun _ Y=>(e (al kM fun c w3 aC O ak=> ?_)))))))))
 have am:a9 w3.heap c (bU (fun x=>decide (x∈s.take 0))):=by rw [show (fun x=>decide (x∈s.take 0))=(fun _:UInt8=>false) from funext fun x=>by simp,o5]; exact ak
 refine aj ((Y _ _ (sq (fun _ Z=>ab (fun _ aa=>(ae (str s) (p (bV u9 rfl rfl) (p mv ?_))))))))
 refine aj ((aa _ _ (au ?_)))
 have hb2l:=hB2.lt
 refine lp (fun C a wI=> ∃ (i:Nat),(i≤s.length)∧(a9 wI.heap c (bU (fun x=>decide (x∈s.take i))))∧(a9 wI.heap A [.int .u64 0,.int .u64 0,.int .u64 0,.int .u64 0])∧(Wk w wI)∧(a 0=str s)∧(a 2=aU A)∧(a 3=aU c)∧(a 6=U (s.length))∧(a 7=U i)∧(s.length - i=C)) _ ⟨0,(by omega),am,(O.md.B hB2),(Md.trans M.md O.md),rfl,rfl,rfl,rfl,rfl,rfl⟩ ?_
 rintro C a wI ⟨i,hi,E,G,I,ar,av,aw,ax,az,rfl⟩
 refine fx 0 ar (fx 2 av (fx 3 aw (fx 6 ax (fx 7 az (ab (fun _ ac=>(p (lt rfl rfl) (aj ((ac _ _ (sq (fun _ ag=>cd rfl (fun hc8=> ?_) (fun hc8=> ?_)))))))))))))
 refine aA (tn (ag _ _ (sq (fun _ q=>au (ab (fun _ ah=>(ae (U i) (p (bw (U i) rfl) ?_))))))))
 refine aj ((ah _ _ (rg rfl (ae (str s) (ae (U i) (p (eY u9 rfl rfl (by omega)) (e (cl rS (u4 c (s.getD i 0) _ _ E) rfl fun aD w13 aq=> ?_))))))))
 obtain ⟨rfl,ai,J⟩:=aq
 have ao:Wk w w13:=Md.trans' I J (fun k hk h=>by have :=M.md.size; omega)
 refine nl (bn (tn (q _ _ (rg rfl (p (ad rfl rfl (bp (by omega))) (p mv (nl (tn ?_))))))))
 exact ⟨_,by omega,i+1,(by omega),((by rw [zL (fun x=>(Cy (show i < s.length by omega) x).symm)]; exact ai)),(J.B G (fun h=>by omega)),ao,rfl,rfl,rfl,rfl,rfl,rfl⟩
 refine ext (te _ (te _ (be (tn (Z _ _ (ab (fun _ q=>(p (dp fJ rfl (rfl) (fun j hj=>by rw [Nat.zero_add]; exact (E).ay j)) ?_))))))))
 refine e (b0 ju rfl (vs:=bU (fun x=>decide (x∈s.take i))) rfl rfl rfl G (by decide) fun w7 ap an=>aj ((q _ _ (rt (l5 rfl (c7 rfl fJ rfl (fun j hj=>by rw [Nat.zero_add]; exact an.ay j)) ?_)))))
 have aB:s.take i=s:=List.take_of_length_le (by omega)
 rw [aB]
 exact ⟨rfl,Md.trans' I ap (fun k hk h=>by omega)⟩
theorem CA (s:List UInt8) (c:UInt8) (w:World):
 aT Tryz.prog 149 (List.toArray [str s,.int .u8 c.toNat]) w (fun v w'=>v= .int .i64 (cG c s)∧Wk w w'):=by
 refine enter Tryz.func149 rfl Tryz.ntmps149 rfl ?_
 refine ab (fun _ a=>(ag (((a _ _ (ab (fun _ i=>(ae (str s) ?_))))))))
 exact ae (.int .u8 c.toNat) (e (cl rU (tW s c _) rfl fun j w7 hR7=>ag (((i _ _ (rt (f1 rfl rfl (hR7))))))))
theorem z9 (s pr:List UInt8) (w:World) (hs:s.length≤1099511627776) (C:pr.length≤1099511627776):
 aT Tryz.prog 174 (List.toArray [str s,str pr]) w (fun v w'=>v= .tuple #[str (dK s pr),.bool (decide (s.take pr.length=pr))]∧Wk w w'):=by
 refine enter Tryz.func174 rfl Tryz.ntmps174 rfl ?_
 refine ab (fun _ j=>(p aw (ag (((j _ _ (sq (fun _ q=>sq (fun _ A=> ?_)))))))))
 refine rg rfl (ae (str s) (ae (str pr) (e (cl rQ (tM s pr _ hs C) rfl fun E w8 hR8=> ?_))))
 obtain ⟨rfl,i⟩:=hR8
 refine p (no rfl) (aj ((A _ _ (cb rfl (fun c=> ?_) (fun c=> ?_)))))
 have hpp:¬s.take pr.length=pr:=by simpa using c
 refine ab (fun _ a=>(ae (str s) (p (bw (str s) rfl) (ag (((a _ _ (rt ?_))))))))
 exact tr (f2 rfl rfl rfl (⟨by unfold dK; rw [if_neg hpp,decide_eq_false hpp]; rfl,i⟩))
 have hpp:s.take pr.length=pr:=by simpa using c
 have hpl:=qu hpp
 refine aA (tn (q _ _ (ab (fun _ a=>(ae (str s) (ae (str pr) (p (bV u9 rfl rfl) (p (j6 u9 rfl rfl (by omega)) ?_))))))))
 exact p aw (ag (((a _ _ (rt (f2 rfl rfl rfl (⟨by unfold dK; rw [if_pos hpp,decide_eq_true hpp]; rfl,i⟩)))))))
theorem Aa (s pr:List UInt8) (w:World) (hs:s.length≤1099511627776) (j:pr.length≤1099511627776):
 aT Tryz.prog 150 (List.toArray [str s,str pr]) w (fun v w'=>v= .tuple #[str (dK s pr),.bool (decide (s.take pr.length=pr))]∧Wk w w'):=by
 refine enter Tryz.func150 rfl Tryz.ntmps150 rfl ?_
 refine ab (fun _ a=>(p aw (ag (((a _ _ (ab (fun _ c=> ?_))))))))
 refine ae (str s) (ae (str pr) (e (cl yy (z9 s pr _ hs j) rfl fun q w8 hR8=> ?_)))
 obtain ⟨rfl,i⟩:=hR8
 refine p (xt rfl rfl) (p (xt rfl rfl) (p aw (ag (((c _ _ (rt (f2 rfl rfl rfl ?_))))))))
 exact ⟨rfl,i⟩
theorem FU (s pr:List UInt8):(dK s pr).length≤s.length:=by unfold dK; split <;> simp
def ew (s:List UInt8) (k:Nat):List UInt8:=(s.drop k).take ((s.drop k).idxOf 93)
theorem xL (s:List UInt8) (k:Nat):(ew s k).length≤s.length:=by unfold ew; rw [List.length_take,List.length_drop]; omega
theorem xK (s:List UInt8) (k:Nat):(s.take (k+(s.drop k).idxOf 93)).drop k=ew s k:=by
 rw [List.drop_take,Nat.add_sub_cancel_left]; rfl
def jT (s:List UInt8) (k:Nat):UInt8→Bool:=fun x=>if (ew s k).take 1= [94] then !decide (x∈dK (ew s k) [94]) else decide (x∈dK (ew s k) [94])
theorem xO {s:List UInt8} {k:Nat} (h:(ew s k).take [(94:UInt8)].length= [94]):jT s k=fun x=> !decide (x∈dK (ew s k) [94]):=by
 funext x; exact if_pos h
theorem xP {s:List UInt8} {k:Nat} (h:¬(ew s k).take [(94:UInt8)].length= [94]):jT s k=fun x=>decide (x∈dK (ew s k) [94]):=by
 funext x; exact if_neg h
theorem xM (s:List UInt8) (k:Nat) (w:World) (hs:s.length≤1048576) (hk:k≤s.length):
 aT Tryz.prog 134 (List.toArray [str s,U k]) w (fun v w'=>(∃ f,v= .tuple #[.agg (bU f).toArray,.int .i64 (if cG 93 (s.drop k) < 0 then 0 else ((k+(s.drop k).idxOf 93 +1:Nat):Int)),.bool (!decide (cG 93 (s.drop k) < 0) && decide (dK (ew s k) [94]≠[]))]∧(¬cG 93 (s.drop k) < 0→f=jT s k))∧Wk w w'):=by
 refine enter Tryz.func134 rfl Tryz.ntmps134 rfl ?_
 refine ab (fun _ ac=>(e (al kM fun O w4 aM A q=>p aw (ag (((ac _ _ (sq (fun _ ad=> ?_)))))))))
 refine rg rfl (ae (str s) (ae (U k) (p (j6 u9 rfl rfl (by omega)) (e (cl yg (CA (s.drop k) 93 _) rfl fun aN w14 aC=> ?_)))))
 obtain ⟨rfl,hE14⟩:=aC
 have hdl:(s.drop k).length=s.length - k:=List.length_drop
 refine ag (((ad _ _ (sq (fun _ ah=>ab (fun _ ai=>(p mv (p (lt rfl rfl) ?_))))))))
 refine aj ((ai _ _ (cd rfl (fun a=> ?_) (fun a=> ?_))))
 refine ab (fun _ C=>(p (rD (ps:= []) (L:= [.int .u64 0,.int .u64 0,.int .u64 0,.int .u64 0]) rA rfl (rfl)) (e (b0 ju rfl (vs:=bU (fun _=>false)) (by rw [o5]; rfl) rfl rfl (hE14.B q) (by decide) fun w3 az an=>p aw (ag (((C _ _ ?_))))))))
 refine rt (tr (s5 rfl (c7 rfl fJ rfl (fun j hj=>by rw [Nat.zero_add]; exact an.ay j)) dD dD ?_))
 refine ⟨⟨fun _=>false,by rw [if_pos a,decide_eq_true a]; rfl,fun h=>absurd a h⟩,Md.trans' (Md.trans A.md hE14) az (fun k hk h=>by omega)⟩
 have hix:=ll (c:=93) (l:=s.drop k) a
 have hbl:(ew s k).length≤s.length:=xL s k
 refine aA (tn (ah _ _ (sq (fun _ C=> ?_))))
 have hbe:=xK s k
 refine rg rfl (ae (str s) (ae (U k) (ae (U k) (p mv (p (a8 ((k+(s.drop k).idxOf 93:Nat):Int) rfl rfl (aI (by omega) (by omega))) (p (mB u9 rfl rfl rfl (by omega)) (e (cl yh (Aa ((s.take (k+(s.drop k).idxOf 93)).drop k) [94] _ (by rw [hbe]; omega) (by decide)) rfl fun aO w25 aa=> ?_))))))))
 rw [hbe] at aa
 obtain ⟨rfl,hE25⟩:=aa
 have htl:=FU (ew s k) [94]
 refine p mv (p (xt rfl rfl) (p (xt rfl rfl) (p aw (ag (((C _ _ (sq (fun _ ak=> ?_)))))))))
 refine rg rfl (p mv (e (cl yi (zQ (dK (ew s k) [94]) _ (by omega)) rfl fun aP w29 aD=> ?_)))
 obtain ⟨rfl,hE29⟩:=aD
 refine e (al kM fun M w10 hb10 Z am=> ?_)
 have au:Wk w w10:=Md.trans A.md (Md.trans hE14 (Md.trans hE25 (Md.trans hE29 Z.md)))
 have hB4x:=Z.md.B (hE29.B (hE25.B (hE14.B q)))
 have hb4l:=hB4x.lt
 refine e (b0 ju rfl (vs:=bU (fun x=>decide (x∈dK (ew s k) [94]))) rfl rfl rfl am (by decide) fun w5 V G=> ?_)
 have hE5:Wk w w5:=Md.trans' au V (fun k hk h=>by have :=A.md.size; have :=hE14.size; have :=hE25.size; have :=hE29.size; omega)
 have hB4y:=V.B hB4x (fun h=>by have :=q.lt; have :=hE14.size; have :=hE25.size; have :=hE29.size; omega)
 refine aj ((ak _ _ ?_))
 refine dm (fun i wC=>(a9 wC.heap M (bU (jT s k)))∧(a9 wC.heap O [.int .u64 0,.int .u64 0,.int .u64 0,.int .u64 0])∧(Wk w wC)∧(i 0=str s)∧(i 1=U k)∧(i 4=aU O)∧(i 7= .int .i64 (cG 93 (s.drop k)))∧(i 8=str (dK (ew s k) [94]))∧(i 10=aU M)) ?_ ?_
 refine ab (fun _ E=>(p mv (aj ((E _ _ (cb rfl (fun J=> ?_) (fun J=> ?_)))))))
 refine rg rfl (p (dp fJ rfl (rfl) (fun j hj=>by rw [Nat.zero_add]; exact (G).ay j)) (e (cl oP (qo (fun x=>decide (x∈dK (ew s k) [94])) _) rfl fun aQ aR aE=> ?_)))
 obtain ⟨rfl,I⟩:=aE
 refine e (b0 ju rfl (vs:=bU (fun x=> !decide (x∈dK (ew s k) [94]))) rfl rfl rfl (I.B G) (Nat.le_refl 4) fun w7 Y ao=> ?_)
 have hE7:Wk w w7:=Md.trans' (Md.trans hE5 I) Y (fun k hk h=>by have :=A.md.size; have :=hE14.size; have :=hE25.size; have :=hE29.size; omega)
 have hB4z:=Y.B (I.B hB4y) (fun h=>by have :=q.lt; have :=hE14.size; have :=hE25.size; have :=hE29.size; omega)
 exact aj ((⟨((by rw [xO (by simpa using J)]; exact ao)),hB4z,hE7,rfl,rfl,rfl,rfl,rfl,rfl⟩))
 exact aA (tn (⟨((by rw [xP (by simpa using J)]; exact G)),hB4y,hE5,rfl,rfl,rfl,rfl,rfl,rfl⟩))
 rintro i wC ⟨aq,ar,ax,aF,aG,aJ,aK,aL,aH⟩
 refine fx 0 aF (fx 1 aG (fx 4 aJ (fx 7 aK (fx 8 aL (fx 10 aH (ab (fun _ E=>(p (dp fJ rfl (rfl) (fun j hj=>by rw [Nat.zero_add]; exact (aq).ay j)) (ae (U k) (ae (.int .i64 (cG 93 (s.drop k))) (p (a8 ((k+(s.drop k).idxOf 93:Nat):Int) rfl rfl (aI (by omega) (by omega))) (p (a8 ((k+(s.drop k).idxOf 93 +1:Nat):Int) rfl rfl (aI (by omega) (by omega))) ?_))))))))))))
 refine ae (str (dK (ew s k) [94])) (p (lx rfl rfl) (e (b0 ju rfl (vs:=bU (jT s k)) rfl rfl rfl ar (by decide) fun w8 aB ap=> ?_)))
 have av:Wk w w8:=Md.trans' ax aB (fun k hk h=>by omega)
 refine p aw (ag (((E _ _ (rt (s5 rfl (c7 rfl fJ rfl (fun j hj=>by rw [Nat.zero_add]; exact ap.ay j)) dD dD ?_))))))
 refine ⟨⟨jT s k,by rw [if_neg a,decide_eq_false a]; rfl,fun _=>rfl⟩,av⟩
theorem Cz (l:List UInt8) (a:Option Addr) (n c:Nat) (x:UInt8) (w:World) (hC:ak w.heap a (U8 l)) (hn:l.length=n) (ao:n≤1048576):
 aT Tryz.prog 154 (List.toArray [.slice a n c,.int .u8 x.toNat]) w (fun v w'=>v= .int .i64 (cG x l)∧Wk w w'):=by
 refine enter Tryz.func154 rfl Tryz.ntmps154 rfl ?_
 refine ab (fun _ G=>(ag (((G _ _ (sq (fun _ I=>ab (fun _ J=> ?_))))))))
 refine ae (.slice a n c) (p (bl jK rfl rfl) (p mv (aj ((J _ _ (au (lp (fun C q wI=> ∃ (i:Nat),(i≤n)∧(∀ j,j < i→l.getD j 0≠x)∧(wI=w)∧(q 0= .slice a n c)∧(q 1= .int .u8 x.toNat)∧(q 7=U n)∧(q 8=U i)∧(n - i=C)) _ ⟨0,(by omega),((fun j hj=>by omega)),rfl,rfl,rfl,rfl,rfl,rfl⟩ ?_)))))))
 rintro C q wI ⟨i,hi,A,aa,ah,ai,al,am,rfl⟩
 refine fx 0 ah (fx 1 ai (fx 7 al (fx 8 am ?_)))
 subst aa
 refine ab (fun _ M=>(p (lt rfl rfl) (aj ((M _ _ (sq (fun _ O=>cd rfl (fun ac=> ?_) (fun ac=> ?_))))))))
 refine aA (tn (O _ _ (sq (fun _ s=>au (ab (fun _ V=>(ae (U i) (p (bw (U i) rfl) ?_))))))))
 refine aj ((V _ _ (ab (fun _ Y=>(ae (.int .u8 x.toNat) (ae (.slice a n c) (ae (U i) (p (aH jW rfl rfl (by omega) (ak.ok (hC) (ou (by omega)))) ?_))))))))
 refine p (ld mX rfl (ot (i:=i) hC (by omega))) (p (bo rfl rfl) (aj ((Y _ _ (cd rfl (fun E=> ?_) (fun E=> ?_))))))
 have an:l.getD i 0=x:=UInt8.toNat_inj.1 (by omega)
 refine ab (fun _ Z=>(ae (U i) (p (bw (U i) rfl) (aj ((Z _ _ (rt (br ?_))))))))
 exact tr (tr (br (tr (f1 rfl rfl (⟨by rw [CP (show i < l.length by omega) A an]; rfl,Md.refl _ _⟩)))))
 refine aA (bn (tn (s _ _ (rg rfl (p (ad rfl rfl (bp (by omega))) (p mv (nl (tn ?_))))))))
 exact ⟨_,by omega,i+1,(by omega),((fun j hj=>by rcases Nat.lt_or_ge j i with h | h <;> first | exact A j h | (rw [show j=i by omega]; exact fun h2=>E (by rw [h2])))),rfl,rfl,rfl,rfl,rfl,rfl⟩
 refine ext (te _ (te _ (be (tn (I _ _ (ab (fun _ s=>(p aw ?_))))))))
 exact aj ((s _ _ (rt (f1 rfl rfl (⟨by rw [CQ (fun j hj=>A j (by omega))]; rfl,Md.refl _ _⟩)))))
theorem AF (l:List UInt8) (i j:Nat) (B n cp gg:Nat) (w:World) (c:World.ownsRow w B 5 1 (.slice (some ⟨gg,0,none⟩) n cp) n (U8 l)) (ac:i < j∧j≤n) (ad:n≤1048576):
 aT Tryz.prog 155 (List.toArray [.slice (some ⟨gg,0,none⟩) n cp,U i,U j]) w (fun v w'=>v= .slice (some ⟨gg,0,none⟩) (i+(n - j)) cp∧World.ownsRow w' B 5 1 (.slice (some ⟨gg,0,none⟩) (i+(n - j)) cp) (i+(n - j)) (U8 (l.take i++l.drop j))∧Md (fun q=>q=gg) w w'):=by
 have hln:=qH c
 have hcp:=(aB c).1
 refine enter Tryz.func155 rfl Tryz.ntmps155 rfl ?_
 refine ab (fun _ s=>(ag (((s _ _ (ab (fun _ A=>(ae (.slice (some ⟨gg,0,none⟩) n cp) ?_))))))))
 refine ae (U i) (ae (U j) (ae (.slice (some ⟨gg,0,none⟩) n cp) (p (bl jK rfl rfl) (p (Fo jW rfl rfl rfl rfl (by omega)) (aj ((A _ _ (sq (fun _ C=> ?_)))))))))
 refine ab (fun _ E=>(ae (U i) (ae (U j) (p (bo rfl rfl) (aj ((E _ _ (cd rfl (fun h=>absurd h (by omega)) (fun aa=> ?_)))))))))
 refine aA (tn (C _ _ (ab (fun _ G=>(ae (.slice (some ⟨gg,0,none⟩) n cp) (p (bl jK rfl rfl) (p aw (nl ?_))))))))
 refine tn (G _ _ (sq (fun _ I=> ?_)))
 have a:(fun w'=>Wk w w') w.drew:=(Md.refl _ _).drew
 refine da (fun w'=>Wk w w') 6 rfl wide a (aJ 0 rfl (.slice (some ⟨gg,0,none⟩) n cp) a (aJ 1 rfl (U i) a (a5 2 rfl (fun _=>nY jW rfl rfl (by omega)) (fun _=>a) (aJ 3 rfl (.slice (some ⟨gg,0,none⟩) n cp) a (aJ 4 rfl (U j) a (a5 5 rfl (fun _=>mA jW rfl rfl (by omega)) (fun _=>a) (bJ 6 rfl (by kernel_rfl) (by kernel_rfl) (xB (B:=B) (xs:=U8 (l.take i)) (news:=U8 (l.drop j)) (n:=i) (m:=n - j) gR (qp (aE c a) (by omega) (by omega)) rfl rfl (show ak _ (dj (some ⟨gg,0,none⟩) cp j 1) (U8 (l.drop j)) from F6 (aE c a)) (by unfold dj; split <;> simp) (by rw [mT,List.length_drop]; omega) (xa _) (by omega) fun w26 O Y=> ?_))))))))
 refine a5 7 rfl (fun _=>aw) (fun h=>Bool.noConfusion ((show true =_ from by kernel_rfl).trans h)) (c9 (by kernel_rfl) ?_)
 refine tn (I _ _ (ab (fun _ J=>(ae (.slice (some ⟨gg,0,none⟩) (i+(n - j)) cp) (ae (.slice (some ⟨gg,0,none⟩) (i+(n - j)) cp) (p (bl jK rfl rfl) (p mv (p (Fp jW rfl rfl rfl (by omega)) ?_))))))))
 refine e (zE jK GO rfl Y (by simp) rfl (by omega) fun w6 V Z=>aj ((J _ _ (ab (fun _ M=>(ae (.slice (some ⟨gg,0,none⟩) (i+(n - j)) cp) (p (bw (.slice (some ⟨gg,0,none⟩) (i+(n - j)) cp) rfl) (nl ?_))))))))
 exact tn (M _ _ (rt (f1 rfl rfl (⟨rfl,by rw [mS]; exact Z,Md.trans (a.mono (fun _ _ h=>h.elim)) (Md.trans O (V.mono (fun q _ h=>by simpa [Value.ownBlock] using h.symm)))⟩))))
end Go.Hb.kP
end
section
set_option maxRecDepth 20000
set_option maxHeartbeats 1000000
namespace Go.Hb.lP
open Go.Hb.cJ
open Go.Proofs
open Go.Hb.fQ Go.Hb.kP
theorem rF {s:List UInt8} {k:Nat} (h:(s.drop k).idxOf 93 < (s.drop k).length):dK (ew s k) [94]≠[]↔(s.drop k).idxOf 93≠0∧¬((s.drop k).idxOf 93=1∧(s.drop k).getD 0 0=94):=by
 unfold ew dK
 generalize hl:s.drop k=l at*
 cases l with
 | nil=>simp at h
 | cons b r=>
   generalize hm:(b::r).idxOf 93=m at*
   cases m with
   | zero=>simp
   | succ m=>
     simp only [List.length_cons] at h
     simp only [List.take_succ_cons,List.length_singleton,List.take_zero,List.getD_cons_zero,List.drop_succ_cons,List.drop_zero]
     by_cases hb:b=94
     · subst hb
       rw [if_pos rfl]
       cases m with
       | zero=>simp
       | succ m=>
         cases r with
         | nil=>simp at h
         | cons x r=>simp
     · rw [if_neg (by simpa using hb)]
       simp [hb]
theorem xQ {s:List UInt8} {k:Nat} (h:(s.drop k).idxOf 93 < (s.drop k).length) (h0:(s.drop k).idxOf 93≠0):jT s k=ee (91::(s.drop k).take ((s.drop k).idxOf 93 +1)):=by
 funext x
 unfold jT ew dK ee
 generalize hl:s.drop k=l at*
 cases l with
 | nil=>simp at h
 | cons b r=>
   generalize hm:(b::r).idxOf 93=m at*
   cases m with
   | zero=>exact absurd rfl h0
   | succ m=>
     simp only [List.length_cons] at h
     have hln:(91::List.take (m+1 +1) (b::r)).length=m+3:=by simp only [List.length_cons,List.length_take]; omega
     rw [hln,if_neg (show ¬m+3=1 by omega)]
     have a:(91::List.take (m+1 +1) (b::r)).getD 1 0=b:=rfl
     have c:List.take (m+3 - 1) (91::List.take (m+1 +1) (b::r))=91::List.take (m+1) (b::r):=by
      show List.take (m+2) (91::List.take (m+2) (b::r))=_
      rw [List.take_succ_cons,List.take_take,Nat.min_eq_left (by omega)]
     rw [a,c]
     simp only [List.take_succ_cons,List.take_zero,List.drop_succ_cons,List.drop_zero,List.length_singleton]
     by_cases hb:b=94
     · subst hb; simp
     · simp [hb]
theorem AT:(fun x:UInt8=> !(fun _:UInt8=>false) x)=ee [46]:=by funext x; simp [ee]
theorem DX {c:UInt8} (h:c≠46):(fun x:UInt8=>(fun _:UInt8=>false) x || decide (x=c))=ee [c]:=by
 funext x
 simp only [ee,List.length_singleton,if_true,Bool.false_or,List.getD_cons_zero]
 exact decide_eq_decide.2 ⟨fun h1=> .inr h1.symm,fun h1=>(h1.resolve_left h).symm⟩
theorem zJ {ps:List (List UInt8)} (h:0 < ps.length):gB ps≠[]:=tp (f:=fun t=>bU (ee t)) (m:=4) (fun _=>rfl) (by decide) h
theorem zI {h:Array Obj} {a:Option Addr} {ps:List (List UInt8)} {i:Nat} (hc:ak h a (gB ps)) (hi:i < ps.length):∀ j,j < 4→Hb.ay h (bk a) (fo a+i*4 +j)=(bU (ee (ps.getD i [])))[j]? :=by
 have :=im (f:=fun t=>bU (ee t)) (m:=4) (fun _=>rfl) hc (List.getElem?_eq_getElem hi)
 rw [List.getD_eq_getElem?_getD,List.getElem?_eq_getElem hi]; exact this
theorem uc {b:UInt8} (h:(b.toNat:Int)=91):b=91:=UInt8.toNat_inj.1 (by have :(91:UInt8).toNat=91:=rfl; omega)
theorem qi {b:UInt8} (h:¬(b.toNat:Int)=91):b≠91:=by rintro rfl; exact h rfl
theorem ub {b:UInt8} (h:(b.toNat:Int)=46):b=46:=UInt8.toNat_inj.1 (by have :(46:UInt8).toNat=46:=rfl; omega)
theorem uN {b:UInt8} (h:¬(b.toNat:Int)=46):b≠46:=by rintro rfl; exact h rfl
theorem uT {w:World} {B:Nat} {v:Value} {l:List (List UInt8)} {x:List UInt8} (h:w.ownsRow B 227 4 v (l.length+1) (gB l++bU (ee x))):w.ownsRow B 227 4 v (l++ [x]).length (gB (l++ [x])):=by
 rw [List.length_append,zH]; simpa [gB] using h
theorem AG (l:List UInt8) (i j:Nat) (a c:Int) (B n cp gg:Nat) (w:World) (p:World.ownsRow w B 5 1 (.slice (some ⟨gg,0,none⟩) n cp) n (U8 l)) (s:i < j∧j≤n) (A:n≤1048576) (hi:a=(i:Nat)) (hj:c=(j:Nat)):
 aT Tryz.prog 155 (List.toArray [.slice (some ⟨gg,0,none⟩) n cp,.int .i64 a,.int .i64 c]) w (fun v w'=>v= .slice (some ⟨gg,0,none⟩) (i+(n - j)) cp∧World.ownsRow w' B 5 1 (.slice (some ⟨gg,0,none⟩) (i+(n - j)) cp) (i+(n - j)) (U8 (l.take i++l.drop j))∧Md (fun q=>q=gg) w w'):=by
 subst hi hj; exact AF l i j B n cp gg w p s A
theorem Fh (f:UInt8→Bool) (w:World):
 aT Tryz.prog 137 (List.toArray [.agg (bU (f)).toArray]) w (fun v w'=>v=str (gP f)∧Wk w w'):=by
 have hbl:(bytesOf f).length≤256:=lV f 256
 have bb:(bytesOf (fun x=> !f x)).length≤256:=lV _ 256
 refine enter Tryz.func137 rfl Tryz.ntmps137 rfl ?_
 refine ab (fun _ aD=>(e (ig rfl fun aK w1 ah M hB1=>ag (((aD _ _ (ab (fun _ aF=> ?_))))))))
 refine p (dp fJ rfl (rfl) (fun j hj=>by rw [Nat.zero_add]; exact (hB1).ay j)) (e (cl rV (rI f _) rfl fun v6 w6 hR6=> ?_))
 obtain ⟨V,ac⟩:=hR6
 obtain ⟨q,a,rfl⟩:=dw V
 have hC6:=(aB V).2
 have J:Wk w w6:=Md.trans M.md ac
 have hB6:=ac.B hB1
 refine ag (((aF _ _ (sq (fun _ aG=>au (ab (fun _ aI=>(ae (.slice q (bytesOf f).length a) ?_))))))))
 refine p (bl jK rfl rfl) (p (bo rfl rfl) (ag (((aI _ _ (cd rfl (fun aZ=> ?_) (fun aZ=> ?_)))))))
 refine ab (fun _ A=>(ag (((A _ _ (rt (br (tr ?_))))))))
 exact f1 rfl rfl (⟨by unfold gP; rw [if_pos (show (bytesOf f).length=256 by omega)]; rfl,J⟩)
 refine dm (fun Z az=> ∃ (aa:Bool),(aa=decide ((bytesOf f).length=1∧(bytesOf f).getD 0 0≠46∧(bytesOf f).getD 0 0≠91))∧(az=w6)∧(Z 1=aU aK)∧(Z 3= .slice q (bytesOf f).length a)∧(Z 11= .bool aa)) ?_ ?_
 refine rg rfl (ae (.slice q (bytesOf f).length a) (p (bl jK rfl rfl) (p (bo rfl rfl) (p mv (gs (t:=15) rfl (fun a0=> ?_) (fun a0=> ?_))))))
 refine pg rfl rfl rfl (ao (.slice q (bytesOf f).length a) rfl) (pg rfl rfl rfl (aH jW rfl rfl (by omega) (ak.ok (hC6) (ou (by omega)))) (pg rfl rfl rfl (ld mX rfl (ot (i:=0) hC6 (by omega))) (pg rfl rfl rfl (ej rfl rfl) (p (bu rfl) (p mv (gs (t:=21) rfl (fun aq=> ?_) (fun aq=> ?_)))))))
 refine pg rfl rfl rfl (ao (.slice q (bytesOf f).length a) rfl) (pg rfl rfl rfl (aH jW rfl rfl (by omega) (ak.ok (hC6) (ou (by omega)))) (pg rfl rfl rfl (ld mX rfl (ot (i:=0) hC6 (by omega))) (pg rfl rfl rfl (ej rfl rfl) (p (bu rfl) (p aw (nl (tn ?_)))))))
 exact ⟨_,((by first | exact decide_eq_decide.2 ⟨fun h=>⟨by omega,by first | exact uN (by omega) | exact fun h=>by omega,by first | exact qi (by omega) | exact fun h=>by omega⟩,fun h=>by have h1:=h.2.2; exact fun h2=>h1 (uc h2)⟩ | rfl)),rfl,rfl,rfl,rfl⟩
 refine sk rfl rfl rfl rfl (sk rfl rfl rfl rfl (sk rfl rfl rfl rfl (sk rfl rfl rfl rfl (p (bc rfl) (p aw (nl (tn ?_)))))))
 exact ⟨false,((decide_eq_false (fun h=>h.2.1 (ub (Decidable.of_not_not aq)))).symm),rfl,rfl,rfl,rfl⟩
 refine sk rfl rfl rfl rfl (sk rfl rfl rfl rfl (sk rfl rfl rfl rfl (sk rfl rfl rfl rfl (p (bc rfl) (p mv (sk rfl rfl rfl rfl (sk rfl rfl rfl rfl ?_)))))))
 exact sk rfl rfl rfl rfl (sk rfl rfl rfl rfl (p (bc rfl) (ag (((⟨false,((decide_eq_false (fun h=>by omega)).symm),rfl,rfl,rfl,rfl⟩))))))
 rintro Z az ⟨aa,ah,aP,a3,a5,a4⟩
 refine fx 1 a3 (fx 3 a5 (fx 11 a4 ?_))
 subst aP
 refine cb rfl (fun ai=> ?_) (fun ai=> ?_)
 have Y:(bytesOf f).length=1∧(bytesOf f).getD 0 0≠46∧(bytesOf f).getD 0 0≠91:=of_decide_eq_true (ah ▸ ai)
 refine ab (fun _ A=>(ae (.slice q (bytesOf f).length a) (p (nm m6 rfl (hC6) (by simp)) (ag (((A _ _ (rt ?_))))))))
 exact br (tr (f1 rfl rfl (⟨by unfold gP; rw [if_neg (show ¬(bytesOf f).length=256 by omega),if_pos Y]; rfl,J⟩)))
 have Y:¬((bytesOf f).length=1∧(bytesOf f).getD 0 0≠46∧(bytesOf f).getD 0 0≠91):=of_decide_eq_false (ah ▸ ai)
 refine ab (fun _ A=>(p (dp fJ rfl (rfl) (fun j hj=>by rw [Nat.zero_add]; exact (hB6).ay j)) (e (cl rW (tN f 93 _ _ rfl) rfl fun bg w31 aR=> ?_))))
 obtain ⟨rfl,hE31⟩:=aR
 refine ag (((A _ _ (cb rfl (fun aj=> ?_) (fun aj=> ?_)))))
 refine ab (fun _ C=>(p (dp fJ rfl (rfl) (fun j hj=>by rw [Nat.zero_add]; exact (hE31.B hB6).ay j)) (e (cl oP (qo f _) rfl fun bh bq aS=> ?_))))
 obtain ⟨rfl,aM⟩:=aS
 refine e (cl rV (rI (fun x=> !f x) _) rfl fun bi bs aV=> ?_)
 obtain ⟨av,aN⟩:=aV
 obtain ⟨a7,a9,rfl⟩:=dw av
 refine p (nm m6 rfl ((aB av).2) (rfl)) (p (cc rfl rfl (by simp only [List.length_cons,List.length_nil]; omega)) (p (cc rfl rfl (by simp only [List.length_cons,List.length_nil,List.length_append]; omega)) (ag (((C _ _ (rt (br ?_))))))))
 exact tr (f1 rfl rfl (⟨by unfold gP; rw [if_neg (show ¬(bytesOf f).length=256 by omega),if_neg Y,if_pos aj]; rfl,Md.trans J (Md.trans hE31 (Md.trans aM aN))⟩))
 refine aA (bn (tn (aG _ _ ?_)))
 refine dm (fun aC wC=> ∃ (E:Option Addr) (s G:Nat),(((bytesOf f).filter (fun b=>decide (b≠94))++(if 94∈(bytesOf f) then [94] else [])).length=s)∧(World.ownsRow wC w1.heap.size 5 1 (.slice E s G) s (U8 ((bytesOf f).filter (fun b=>decide (b≠94))++(if 94∈(bytesOf f) then [94] else []))))∧(Wk w wC)∧(s≤300)∧(aC 3= .slice E s G)) ?_ ?_
 refine ab (fun _ C=>(ae (.slice q (bytesOf f).length a) (e (cl yj (Cz (bytesOf f) q _ a 94 _ (hC6.wk hE31) rfl (by omega)) rfl fun bj w39 aW=> ?_))))
 obtain ⟨rfl,I⟩:=aW
 have hE39x:Wk w w39:=Md.trans J (Md.trans hE31 I)
 refine ag (((C _ _ (ab (fun _ aJ=>(p mv (p (ge rfl rfl) (nl ?_))))))))
 refine tn (aJ _ _ (cd rfl (fun aY=> ?_) (fun aY=> ?_)))
 have hix:=ll (c:=94) (l:=bytesOf f) (by omega)
 have ho39:=aE (aE V hE31) I
 obtain ⟨gg,rfl⟩:=D5 ho39 (by omega)
 refine rg rfl (ae (.slice (some ⟨gg,0,none⟩) (bytesOf f).length a) (p mv (p mv (p (ad rfl rfl (bp (by omega))) (e (cl yl (AG (bytesOf f) ((bytesOf f).idxOf 94) ((bytesOf f).idxOf 94 +1) _ _ w1.heap.size _ a gg _ ho39 (by omega) (by omega) (by omega) (by omega)) rfl fun bk w46 aX=> ?_))))))
 obtain ⟨rfl,al,hM46⟩:=aX
 have hE46:Wk w w46:=Md.trans' hE39x hM46 (fun k hk h=>by have :=cU ho39 (show (Value.slice (some ⟨gg,0,none⟩) _ a).ownBlock=some gg from rfl); have :=M.md.size; omega)
 have hlx:=qH al
 refine e (gj gR rfl rfl fun a8 bt ba O aL=>e (ap gR (aE al O.md) rfl (by have :=M.md.size; have :=ac.size; have :=hE31.size; have :=I.size; have :=hM46.size; have :=O.md.size; omega) rfl (ak.ea aL) (rfl) (rfl) (by omega) (by omega) fun bm w48 am aQ bf bd=> ?_))
 have hE48:=Wk.own (Md.trans hE46 O.md) (aE al O.md) aQ M.md.size
 rw [Cx (xW f) hix.2] at hlx am
 obtain ⟨an,c2,rfl⟩:=dw am
 have ax:World.ownsRow w48 w1.heap.size 5 1 (.slice an (((bytesOf f).idxOf 94 +((bytesOf f).length - ((bytesOf f).idxOf 94 +1)))+1) c2) (((bytesOf f).idxOf 94 +((bytesOf f).length - ((bytesOf f).idxOf 94 +1)))+1) (U8 ((bytesOf f).filter (fun b=>decide (b≠94))++ [94])):=by rw [mS]; exact am
 exact ag (((⟨an,_,c2,((by have :=qH ax; rw [if_pos (List.idxOf_lt_length_iff.1 hix.2)]; exact this)),((by rw [if_pos (List.idxOf_lt_length_iff.1 hix.2)]; exact ax)),hE48,((by omega)),rfl⟩)))
 have U:¬(94:UInt8)∈bytesOf f:=fun h=>by have h1:cG 94 (bytesOf f)=(bytesOf f).idxOf 94:=if_pos (List.idxOf_lt_length_iff.2 h); omega
 exact aA (tn (⟨q,(bytesOf f).length,a,((by rw [if_neg U,uF U,List.append_nil])),((by rw [if_neg U,uF U,List.append_nil]; exact aE (aE V hE31) I)),hE39x,((by omega)),rfl⟩))
 rintro aC wC ⟨E,s,G,ar,a2,aO,a1,a6⟩
 refine fx 3 a6 ?_
 have hF3:((bytesOf f).filter (fun b=>decide (b≠94))++(if 94∈(bytesOf f) then [94] else [])).length≤300:=by rw [ar]; exact a1
 refine ab (fun _ C=>(ae (.slice E s G) (p (nm m6 rfl ((aB a2).2) (ar)) (p (cc rfl rfl (Nat.le_trans (Nat.add_le_add_left hF3 _) (by decide))) (p (cc rfl rfl (by rw [List.length_append]; exact Nat.le_trans (Nat.add_le_add_right (Nat.add_le_add_left hF3 _) _) (by decide))) (p aw (nl ?_)))))))
 exact tn (C _ _ (rt (f1 rfl rfl (⟨by unfold gP; rw [if_neg (show ¬(bytesOf f).length=256 by omega),if_neg Y,if_neg (show ¬f 93=true from by rw [aj]; exact Bool.noConfusion)]; rfl,aO⟩))))
theorem z1 (s:List UInt8) (w:World) (hs:s.length≤1048576):
 aT Tryz.prog 120 (List.toArray [str s]) w (fun v w'=>(∃ a,v= .tuple #[.agg [a].toArray,U ((dC s).2)]∧World.ownsRow w' w.heap.size 227 4 (a) ((dC s).1).length (gB ((dC s).1)))∧Wk w w'):=by
 refine enter Tryz.func120 rfl Tryz.ntmps120 rfl ?_
 refine ab (fun _ a6=>(e (fK qT fun am cm hb2 J hB2=>ag (((a6 _ _ (sq (fun _ bf=>sq (fun _ aW=> ?_)))))))))
 refine rg rfl (ae (str s) (p (e7 rfl rfl) (p mv (gs (t:=10) rfl (fun hg10=> ?_) (fun hg10=> ?_)))))
 refine sk rfl rfl rfl rfl (sk rfl rfl rfl rfl (sk rfl rfl rfl rfl (p (bu rfl) (aj ((aW _ _ (ct rfl (sq (fun _ V=> ?_)))))))))
 refine rg rfl (p (bT (ps:= []) (L:= [.slice none 0 0]) mD rfl (rfl)) (e (ga kq rfl (vs:= [.slice none 0 0]) rfl rfl rfl hB2 (by decide) fun w9 hM9 c=> ?_)))
 have q:Wk w w9:=Md.trans' J.md hM9 (fun k hk h=>by omega)
 exact ag (((V _ _ (rt (tr (ef rfl (c7 (cs:= [.slice none 0 0]) rfl jR rfl (fun j hj=>(by cases j with | zero=>exact (aQ c).trans rfl | succ j=>omega))) dD (⟨⟨.slice none 0 0,by unfold dC; rw [if_pos (.inl hg10)]; rfl,by unfold dC; rw [if_pos (.inl hg10)]; exact World.ownsRow_nil _ _ _ _⟩,q⟩)))))))
 refine pg rfl rfl rfl (ao (str s) rfl) (pg rfl rfl rfl (bV u9 rfl rfl) (pg rfl rfl rfl (gt rfl rfl) (p (bc rfl) (aj ((aW _ _ (cd rfl (fun bM=> ?_) (fun bM=> ?_))))))))
 refine ab (fun _ V=>(p (bT (ps:= []) (L:= [.slice none 0 0]) mD rfl (rfl)) (e (ga kq rfl (vs:= [.slice none 0 0]) rfl rfl rfl hB2 (by decide) fun w9 hM9 c=> ?_))))
 have q:Wk w w9:=Md.trans' J.md hM9 (fun k hk h=>by omega)
 exact ag (((V _ _ (rt (tr (ef rfl (c7 (cs:= [.slice none 0 0]) rfl jR rfl (fun j hj=>(by cases j with | zero=>exact (aQ c).trans rfl | succ j=>omega))) dD (⟨⟨.slice none 0 0,by unfold dC; rw [if_pos (.inr (by omega))]; rfl,by unfold dC; rw [if_pos (.inr (by omega))]; exact World.ownsRow_nil _ _ _ _⟩,q⟩)))))))
 refine aA (tn (bf _ _ (sq (fun _ V=>ab (fun _ bg=>(ae (str s) (p (e7 rfl rfl) (nl ?_))))))))
 refine tn (bg _ _ (cd rfl (fun M=> ?_) (fun M=> ?_)))
 refine ab (fun _ aL=>(p (bT (ps:= []) (L:= [.slice none 0 0]) mD rfl (rfl)) (e (ga kq rfl (vs:= [.slice none 0 0]) rfl rfl rfl hB2 (by decide) fun w9 hM9 c=> ?_))))
 have q:Wk w w9:=Md.trans' J.md hM9 (fun k hk h=>by omega)
 refine ag (((aL _ _ (rt (tr (ef rfl (c7 (cs:= [.slice none 0 0]) rfl jR rfl (fun j hj=>(by cases j with | zero=>exact (aQ c).trans rfl | succ j=>omega))) dD ?_))))))
 have a3:¬(s= []∨512 < s.length):=fun h=>h.elim hg10 (fun h=>by omega)
 exact ⟨⟨.slice none 0 0,by unfold dC; rw [if_neg a3,if_pos M]; rfl,by unfold dC; rw [if_neg a3,if_pos M]; exact World.ownsRow_nil _ _ _ _⟩,q⟩
 refine aA (tn (V _ _ (ab (fun _ aL=>(e (fK qT fun Y w4 b8 a2 bv=> ?_))))))
 have hE4:Wk w w4:=Md.trans J.md a2.md
 have hb2l:=(Array.getElem?_eq_some_iff.1 hB2).1
 have hB2x:=a2.md.au hB2
 have hs:=hs
 refine aj ((aL _ _ (sq (fun _ bh=>ab (fun _ bi=>(ag (((bi _ _ ?_)))))))))
 refine au (lp (fun aX ai wI=> ∃ (i:Nat) (dn:List (List UInt8)) (ah:Value),(i≤s.length∧dn.length≤i)∧(fP s i dn)∧(wI.heap[Y]? =some (.cells [ah].toArray 213 (0,0)))∧(wI.heap[am]? =some (.cells [.slice none 0 0].toArray 213 (0,0)))∧(World.ownsRow wI w.heap.size 227 4 (ah) (dn).length (gB (dn)))∧(Wk w wI)∧(ai 0=str s)∧(ai 2=aU am)∧(ai 4=aU Y)∧(ai 5=U i)∧(s.length - i=aX)) _ ⟨0,[],.slice none 0 0,((by simp)),(fP.start s),bv,hB2x,(World.ownsRow_nil _ _ _ _),hE4,rfl,rfl,rfl,(by first | rfl | exact iv (if_neg ad)),rfl⟩ ?_)
 rintro aX ai wI ⟨i,dn,ah,hi,aF,aq,aa,E,G,bS,bW,bX,bY,rfl⟩
 refine fx 0 bS (fx 2 bW (fx 4 bX (fx 5 bY (sq (fun _ bj=>ab (fun _ a7=>(ae (U i) (ae (str s) (p (bV u9 rfl rfl) (p (lt rfl rfl) ?_))))))))))
 refine aj ((a7 _ _ (cd rfl (fun bN=> ?_) (fun bN=> ?_))))
 refine aA (tn (bj _ _ (au (ab (fun _ aG=>(e (al kM fun Z w6 hb6 aC hB6=> ?_)))))))
 have an:a9 w6.heap Z (bU (fun _=>false)):=by rw [o5]; exact hB6
 have aO:Wk w w6:=Md.trans G aC.md
 have hBp6:=aC.md.au aq
 have hBz6:=aC.md.au aa
 have hol6:=aE E aC.md
 have hb6:Z=wI.heap.size:=hb6
 have hI4:=(Array.getElem?_eq_some_iff.1 aq).1
 have hI2:=(Array.getElem?_eq_some_iff.1 aa).1
 have hdi:=drop_cons (l:=s) (i:=i) 0 (by omega)
 refine aj ((aG _ _ (ab (fun _ aH=>(ag (((aH _ _ ?_))))))))
 refine dm (fun O wC=>(s.getD i 0≠91)∧(a9 wC.heap Z (bU (ee [s.getD i 0])))∧(wC.heap[Y]? =some (.cells [ah].toArray 213 (0,0)))∧(wC.heap[am]? =some (.cells [.slice none 0 0].toArray 213 (0,0)))∧(World.ownsRow wC w.heap.size 227 4 (ah) (dn).length (gB (dn)))∧(Wk w wC)∧(O 0=str s)∧(O 2=aU am)∧(O 4=aU Y)∧(O 5=U i)∧(O 6=aU Z)) ?_ ?_
 refine ab (fun _ A=>(ae (str s) (ae (U i) (p (eY u9 rfl rfl (by omega)) (aj ((A _ _ (au ?_))))))))
 refine ab (fun _ ba=>(p (bo rfl rfl) (ag (((ba _ _ (cd rfl (fun aD=> ?_) (fun aD=> ?_))))))))
 refine sq (fun _ aJ=>ab (fun _ bb=>(ae (str s) (ae (U i) (p (a8 ((i+1:Nat):Int) rfl rfl (aI (by omega) (by omega))) (e (cl yd (xM s (i+1) _ hs (by omega)) rfl fun cj w36 bK=> ?_)))))))
 obtain ⟨⟨bp,rfl,bP⟩,hE36⟩:=bK
 have bH:Wk w w36:=Md.trans aO hE36
 have hb91:=uc aD
 refine p mv (p (xt rfl rfl) (p (xt rfl rfl) (p (xt rfl rfl) (e (b0 ju rfl (vs:=bU bp) rfl rfl rfl (hE36.B an) (by decide) fun w13 ar aY=> ?_)))))
 have a0:Wk w w13:=Md.trans' bH ar (fun k hk h=>by have :=G.size; omega)
 have hs36:=hE36.size
 have hBp13:=ar.au (hE36.au hBp6) (fun h=>by omega)
 have hBz13:=ar.au (hE36.au hBz6) (fun h=>by omega)
 have hol13:=bA (aE hol6 hE36) ar (fun k hk h=>by have :=cU E hk; omega)
 have hdl:(s.drop (i+1)).length=s.length - (i+1):=List.length_drop
 refine p aw (ag (((bb _ _ (ab (fun _ bd=>(p mv (p (no rfl) ?_))))))))
 refine aj ((bd _ _ (cb rfl (fun C=> ?_) (fun C=> ?_))))
 have ac:fw (s.drop i)=none:=by
  rw [hdi,hb91]
  refine zj rfl (fun h=> ?_)
  have hx:¬cG 93 (s.drop (i+1)) < 0:=by rw [show cG 93 (s.drop (i+1))=(s.drop (i+1)).idxOf 93 from if_pos h.1]; omega
  have hy:=(rF (s:=s) (k:=i+1) h.1).2 h.2
  rw [decide_eq_false hx,decide_eq_true hy] at C; cases C
 have hcr:=aF.bad (by omega) ac
 refine ab (fun _ aK=>(p (bT (ps:= []) (L:= [.slice none 0 0]) mD rfl (rfl)) (e (ga kq rfl (vs:= [.slice none 0 0]) rfl rfl rfl hBz13 (by decide) fun w9 hM9 c=> ?_))))
 have q:Wk w w9:=Md.trans' a0 hM9 (fun k hk h=>by omega)
 refine ag (((aK _ _ (rt (tr (br (tr (br ?_))))))))
 refine tr (br (tr (ef rfl (c7 (cs:= [.slice none 0 0]) rfl jR rfl (fun j hj=>(by cases j with | zero=>exact (aQ c).trans rfl | succ j=>omega))) dD ?_)))
 have hz:dC s=([],41):=by unfold dC; rw [if_neg (fun h=>h.elim hg10 (fun h=>by omega)),if_neg M,hcr]
 exact ⟨⟨.slice none 0 0,by rw [hz]; rfl,by rw [hz]; exact World.ownsRow_nil _ _ _ _⟩,q⟩
 have ad:¬cG 93 (s.drop (i+1)) < 0:=fun h=>by rw [decide_eq_true h] at C; cases C
 have b5:dK (ew s (i+1)) [94]≠[]:=fun h=>by rw [h] at C; simp at C
 have hix:=ll ad
 have hyk:=(rF (s:=s) (k:=i+1) hix.2).1 b5
 obtain rfl :=bP ad
 rw [xQ hix.2 hyk.1] at aY
 have ac:fw (s.drop i)=some (91::(s.drop (i+1)).take ((s.drop (i+1)).idxOf 93 +1),(s.drop (i+1)).drop ((s.drop (i+1)).idxOf 93 +1)):=by rw [hdi,hb91]; exact zl rfl hix.2 hyk.1 hyk.2
 have hgo2:=aF.step (j:=i+1 +(s.drop (i+1)).idxOf 93 +1) ac (by rw [List.drop_drop]; rfl)
 have cf:(s.drop (i+1)).idxOf 93 < s.length - (i+1):=by have :=hix.2; omega
 refine aA (tn (aJ _ _ (ab (fun _ aK=>(p (fa ku rfl) (p (ld lR rfl ((aQ hBp13).trans rfl)) (p (dp fJ rfl (rfl) (fun j hj=>by rw [Nat.zero_add]; exact (aY).ay j)) (e (kp n0 rfl rfl rfl fun bk w46 b9 az bw=> ?_)))))))))
 have bx:a9 w46.heap bk (bU (ee (91::(s.drop (i+1)).take ((s.drop (i+1)).idxOf 93 +1)))):=bw
 have hE46:Wk w w46:=Md.trans a0 az.md
 have hol46:=aE hol13 az.md
 have hBp46:=az.md.au hBp13
 have hBz46:=az.md.au hBz13
 refine e (ap n0 (hol46) rfl (by have :=hE46.size; omega) rfl (ak.ea bx) (rfl) (sv _) (by omega) (by omega) fun b6 cn a4 aR cg cc=> ?_)
 have ho47x:=uT a4
 have hBp47:=aR.au hBp46 (fun h=>cz hol46 hBp46 (by decide) h)
 have hBz47:=aR.au hBz46 (fun h=>cz hol46 hBz46 (by decide) h)
 have hE47:=Wk.own hE46 hol46 aR (Nat.le_refl _)
 refine p (fa ku rfl) (e (c4 sA rfl rfl (dA a4) hBp47 (by simp) fun w16 hM16 bq=> ?_))
 have bE:Wk w w16:=Md.trans' hE47 hM16 (fun k hk h=>by have :=J.md.size; omega)
 exact aj ((aK _ _ (ext (iN (by decide) (te _ (be (tn (⟨_,by omega,i+1 +(s.drop (i+1)).idxOf 93 +1,dn++ [91::(s.drop (i+1)).take ((s.drop (i+1)).idxOf 93 +1)],b6,((by rw [List.length_append,List.length_singleton]; omega)),hgo2,bq,(hM16.au hBz47 (fun h=>by omega)),(bA ho47x hM16 (fun k hk h=>cz ho47x hBp47 (by decide) (h ▸ hk))),bE,rfl,rfl,rfl,(by first | rfl | exact iv (if_neg ad)),rfl⟩))))))))
 refine ab (fun _ aJ=>(p (bo rfl rfl) (ag (((aJ _ _ (cd rfl (fun aV=> ?_) (fun aV=> ?_))))))))
 refine rg rfl (p (dp fJ rfl (rfl) (fun j hj=>by rw [Nat.zero_add]; exact (an).ay j)) (e (cl oP (qo (fun _=>false) _) rfl fun ck co bL=> ?_)))
 obtain ⟨rfl,I⟩:=bL
 refine e (b0 ju rfl (vs:=bU (fun x=> !(fun _:UInt8=>false) x)) rfl rfl rfl (I.B an) (by decide) fun w18 av hB18=> ?_)
 have hs52:=I.size
 have bF:Wk w w18:=Md.trans' (Md.trans aO I) av (fun k hk h=>by have :=G.size; omega)
 have hBp18:=av.au (I.au hBp6) (fun h=>by omega)
 have hBz18:=av.au (I.au hBz6) (fun h=>by omega)
 have hol18:=bA (aE hol6 I) av (fun k hk h=>by have :=cU E hk; omega)
 exact nl (bn (tn (⟨(qi aD),((by rw [ub aV,← AT]; exact hB18)),hBp18,hBz18,hol18,bF,rfl,rfl,rfl,rfl,rfl⟩)))
 refine rg rfl (ae (str s) (ae (U i) (p (eY u9 rfl rfl (by omega)) (e (cl rS (u4 Z (s.getD i 0) _ _ an) rfl fun ci w29 bJ=> ?_)))))
 obtain ⟨rfl,bt,ax⟩:=bJ
 have hE29:Wk w w29:=Md.trans' aO ax (fun k hk h=>by have :=G.size; omega)
 have hBp29:=ax.au hBp6 (fun h=>by omega)
 have hBz29:=ax.au hBz6 (fun h=>by omega)
 have hol29:=bA hol6 ax (fun k hk h=>by have :=cU E hk; omega)
 exact nl (bn (tn (⟨(qi aD),((by rw [← DX (uN aV)]; exact bt)),hBp29,hBz29,hol29,hE29,rfl,rfl,rfl,rfl,rfl⟩)))
 rintro O wC ⟨bQ,bC,aZ,bD,bR,bI,bZ,b1,b2,b3,b4⟩
 refine fx 0 bZ (fx 2 b1 (fx 4 b2 (fx 5 b3 (fx 6 b4 (ab (fun _ A=>(p (fa ku rfl) (p (ld lR rfl ((aQ aZ).trans rfl)) (p (dp fJ rfl (rfl) (fun j hj=>by rw [Nat.zero_add]; exact (bC).ay j)) (e (kp n0 rfl rfl rfl fun bm w56 ca aB bz=> ?_)))))))))))
 have bB:a9 w56.heap bm (bU (ee [s.getD i 0])):=bz
 have a1:Wk w w56:=Md.trans bI aB.md
 have hol56:=aE bR aB.md
 have hBp56:=aB.md.au aZ
 have hBz56:=aB.md.au bD
 refine e (ap n0 (hol56) rfl (by have :=a1.size; omega) rfl (ak.ea bB) (rfl) (sv _) (by omega) (by omega) fun b7 cp a5 aS ch ce=> ?_)
 have ho57x:=uT a5
 have hBp57:=aS.au hBp56 (fun h=>cz hol56 hBp56 (by decide) h)
 have hBz57:=aS.au hBz56 (fun h=>cz hol56 hBz56 (by decide) h)
 have hE57:=Wk.own a1 hol56 aS (Nat.le_refl _)
 have ac:fw (s.drop i)=some ([s.getD i 0],s.drop (i+1)):=by rw [hdi]; exact zk bQ
 have hgo2:=aF.step (j:=i+1) ac rfl
 refine p (fa ku rfl) (e (c4 sA rfl rfl (dA a5) hBp57 (by simp) fun w19 aP bs=> ?_))
 have bG:Wk w w19:=Md.trans' hE57 aP (fun k hk h=>by have :=J.md.size; omega)
 refine aj ((A _ _ (rg rfl (ae (U i) (p (a8 ((i+1:Nat):Int) rfl rfl (aI (by omega) (by omega))) (p aw (nl (bn ?_))))))))
 exact tn (⟨_,by omega,i+1,dn++ [[s.getD i 0]],b7,((by rw [List.length_append,List.length_singleton]; omega)),hgo2,bs,(aP.au hBz57 (fun h=>by omega)),(bA ho57x aP (fun k hk h=>cz ho57x hBp57 (by decide) (h ▸ hk))),bG,rfl,rfl,rfl,(by first | rfl | exact iv (if_neg ad)),rfl⟩)
 refine ext (te _ (te _ (be (tn (bh _ _ (sq (fun _ aG=>sq (fun _ aH=> ?_))))))))
 obtain ⟨aM,aN,rfl⟩:=dw E
 have hcr:=aF.done (by omega)
 refine rg rfl (p (fa ku rfl) (p (ld lR rfl ((aQ aq).trans rfl)) (p (bl qG rfl rfl) (p (gt rfl rfl) (aj ((aH _ _ (cd rfl (fun bO=> ?_) (fun bO=> ?_)))))))))
 refine ab (fun _ A=>(p (bT (ps:= []) (L:= [.slice none 0 0]) mD rfl (rfl)) (e (ga kq rfl (vs:= [.slice none 0 0]) rfl rfl rfl aa (by decide) fun w9 hM9 c=> ?_))))
 have q:Wk w w9:=Md.trans' G hM9 (fun k hk h=>by omega)
 refine ag (((A _ _ (rt (tr (ef rfl (c7 (cs:= [.slice none 0 0]) rfl jR rfl (fun j hj=>(by cases j with | zero=>exact (aQ c).trans rfl | succ j=>omega))) dD ?_))))))
 have hz:dC s=([],42):=by unfold dC; rw [if_neg (fun h=>h.elim hg10 (fun h=>by omega)),if_neg M,hcr]; exact if_pos (by omega)
 exact ⟨⟨.slice none 0 0,by rw [hz]; rfl,by rw [hz]; exact World.ownsRow_nil _ _ _ _⟩,q⟩
 refine aA (tn (aG _ _ (ab (fun _ A=>(p (dp jR rfl (rfl) (show ∀ j,j < 1→Hb.ay wI.heap Y (0 +j)= [Value.slice aM dn.length aN][j]? from fun j hj=>(by cases j with | zero=>exact (aQ aq).trans rfl | succ j=>omega))) (e (ga kq rfl (vs:= [.slice aM dn.length aN]) rfl rfl rfl aa (by decide) fun w9 hM9 c=> ?_)))))))
 have q:Wk w w9:=Md.trans' G hM9 (fun k hk h=>by omega)
 have hol9:=bA E hM9 (fun k hk h=>cz E aa (by decide) (h ▸ hk))
 refine ag (((A _ _ (rt (ef rfl (c7 (cs:= [.slice aM dn.length aN]) rfl jR rfl (fun j hj=>(by cases j with | zero=>exact (aQ c).trans rfl | succ j=>omega))) dD ?_)))))
 have hz:dC s=(dn,0):=by unfold dC; rw [if_neg (fun h=>h.elim hg10 (fun h=>by omega)),if_neg M,hcr]; exact if_neg (by omega)
 exact ⟨⟨_,by rw [hz]; rfl,by rw [hz]; exact hol9⟩,q⟩
theorem Es (ps:List (List UInt8)) (a:Option Addr) (c:Nat) (w:World) (hC:ak w.heap a (gB ps)) (hn:ps.length≤4096):
 aT Tryz.prog 121 (List.toArray [.agg [.slice a ps.length c].toArray]) w (fun v w'=>v=str (lB ps)∧Wk w w'):=by
 refine enter Tryz.func121 rfl Tryz.ntmps121 rfl ?_
 refine ab (fun _ J=>(e (ig rfl fun aB w1 aD A hB1=>ag (((J _ _ (sq (fun _ O=>sq (fun _ V=> ?_)))))))))
 refine rg rfl (p (fa ku rfl) (p (ld lR rfl (hB1.ay 0)) (p (bl qG rfl rfl) (p (bo rfl rfl) (aj ((V _ _ (cd rfl (fun G=> ?_) (fun G=> ?_)))))))))
 refine ab (fun _ C=>(ag (((C _ _ (rt (tr (f1 rfl rfl ?_))))))))
 exact ⟨by unfold lB; rw [if_pos (List.eq_nil_of_length_eq_zero (by omega))]; rfl,A.md⟩
 refine aA (tn (O _ _ (ab (fun _ C=>(ag (((C _ _ (sq (fun _ Y=> ?_))))))))))
 refine ab (fun _ Z=>(p (fa ku rfl) (p (ld lR rfl (hB1.ay 0)) (p (bl qG rfl rfl) (p mv (aj ((Z _ _ ?_))))))))
 refine au (lp (fun I s wI=> ∃ (i:Nat),(i≤ps.length)∧(Wk w1 wI)∧(((ps.take i).flatMap fun t=>gP (ee t)).length≤i*300)∧(s 3=str ((ps.take i).flatMap fun t=>gP (ee t)))∧(s 11= .slice a ps.length c)∧(s 12=U (ps.length))∧(s 13=U i)∧(ps.length - i=I)) _ ⟨0,(by omega),(Md.refl _ _),((by simp)),(by first | rfl | (rw [gU ps i [] (by omega),List.flatMap_append,List.flatMap_singleton]; rfl)),rfl,rfl,rfl,rfl⟩ ?_)
 rintro I s wI ⟨i,hi,q,hlen,az,ar,av,ax,rfl⟩
 refine fx 3 az (fx 11 ar (fx 12 av (fx 13 ax (ab (fun _ aa=>(p (lt rfl rfl) (aj ((aa _ _ (sq (fun _ ac=>cd rfl (fun aq=> ?_) (fun aq=> ?_))))))))))))
 refine aA (tn (ac _ _ (sq (fun _ E=>au (ab (fun _ M=>(p (aH Bi rfl rfl (by omega) (ak.ok (hC.wk (Md.trans A.md q)) (zJ (by omega)))) (p (dp fJ rfl (rfl) (show ∀ j,j < 4→Hb.ay wI.heap (bk a) (fo a+i*4 +j)=(bU (ee (ps.getD i [])))[j]? from zI (hC.wk (Md.trans A.md q)) (by omega))) ?_))))))))
 refine e (al kM fun aC w5 hb5 ao ah=>e (b0 ju rfl (vs:=bU (ee (ps.getD i []))) rfl rfl rfl ah (by decide) fun w6 an hB6=> ?_))
 have am:Wk w1 w6:=Md.trans' (Md.trans q ao.md) an (fun k hk h=>by have :=q.size; omega)
 refine aj ((M _ _ (rg rfl (ae (str ((ps.take i).flatMap fun t=>gP (ee t))) (p (dp fJ rfl (rfl) (fun j hj=>by rw [Nat.zero_add]; exact (hB6).ay j)) (e (cl ye (Fh (ee (ps.getD i [])) _) rfl fun aE w19 ap=> ?_)))))))
 obtain ⟨rfl,ai⟩:=ap
 have hsl:=Fg (ee (ps.getD i []))
 refine p (cc rfl rfl (by omega)) (p aw (nl (bn (tn (E _ _ (rg rfl (p (ad rfl rfl (bp (by omega))) (p mv ?_))))))))
 exact aj ((⟨_,by omega,i+1,(by omega),(Md.trans am ai),((by rw [gU ps i [] (by omega),List.flatMap_append,List.flatMap_singleton,List.length_append]; omega)),(by first | rfl | (rw [gU ps i [] (by omega),List.flatMap_append,List.flatMap_singleton]; rfl)),rfl,rfl,rfl,rfl⟩))
 refine ext (te _ (te _ (be (tn (Y _ _ (ab (fun _ E=>(ae (str ((ps.take i).flatMap fun t=>gP (ee t))) ?_))))))))
 exact p (bw (str ((ps.take i).flatMap fun t=>gP (ee t))) rfl) (aj ((E _ _ (rt (f1 rfl rfl (⟨by unfold lB; rw [if_neg (fun h=>by rw [h] at G; exact G rfl),show ps.take i=ps from List.take_of_length_le (by omega)]; rfl,Md.trans A.md q⟩))))))
end Go.Hb.lP
end
section
set_option maxRecDepth 20000
set_option maxHeartbeats 1000000
namespace Go.Hb.fF
open Go.Hb.cJ
open Go.Proofs
open Go.Hb.eM Go.Hb.fg Go.Hb.jk Go.Hb.ib Go.Hb.gX Go.Hb.ke Go.Hb.fH Go.Hb.kP Go.Hb.lP Go.Hb.gx Go.Hb.fQ
theorem tk {kind:Nat} {al:List (List Nat)} {s:Tx} (h:al= []):eh kind al s=iU kind s:=if_pos h
theorem BG {kind:Nat} {al:List (List Nat)} {s:Tx} {e:Nat} (h:al≠[]) (h1:cH s al.length= .error e):eh kind al s= .error 13:=by unfold eh; rw [if_neg h,h1]
theorem BI {kind:Nat} {al:List (List Nat)} {s:Tx} (h:al≠[]) (h1:cH s al.length= .ok 0):eh kind al s= .error 13:=by unfold eh; rw [if_neg h,h1]; rfl
theorem BH {kind n:Nat} {al:List (List Nat)} {s:Tx} (h:al≠[]) (h1:cH s al.length= .ok n) (hz:n≠0):eh kind al s= .ok (al.getD (n - 1) []):=by unfold eh; rw [if_neg h,h1]; exact if_neg hz
theorem tG {kind:Nat} {s:Tx} (h:(dt kind s).2=0):iU kind s= .ok (dt kind s).1:=if_neg fun h2=>h2 h
theorem tE {kind:Nat} {s:Tx} (h:(dt kind s).2≠0):iU kind s= .error (dt kind s).2:=if_pos h
theorem vm {kind ln:Nat} {al:List (List Nat)} {c:cX} {r:List Tx} (h:r.length≠4) (h1:r.length≠5):gN kind al c ln r= .error 111:=by unfold gN; rw [if_pos ⟨h,h1⟩]
theorem j5 {kind ln:Nat} {al:List (List Nat)} {c:cX} {r:List Tx} (h:r.length=4∨r.length=5):gN kind al c ln r=(match dR true (r.getD 2 []) with
 | .error e=> .error e
 | .ok st=>match iL (aW (r.getD 3 [])) with
   | .error e=> .error e
   | .ok ad=>match iZ kind al c.kind (aW (r.getD 3 [])) with
     | .error e=> .error e
     | .ok nx=>match iP r with
       | .error e=> .error e
       | .ok cd=> .ok ⟨c.kind,c.flag,c.gC,st,ad,cd,nx,ln⟩):=by unfold gN; rw [if_neg (by omega)]; rfl
theorem xc {r:gY} (h:r.2.2.2≠0):iL r= .error r.2.2.2:=if_pos h
theorem xf {r:gY} (h:r.2.2.2=0) (h1:r.1= [48]):iL r= .ok []:=by unfold iL; rw [if_neg (fun h2=>h2 h),if_pos h1]
theorem xd {r:gY} (h:r.2.2.2=0) (h1:r.1≠[48]) (h2:eQ r.1≠0):iL r= .error (eQ r.1):=by unfold iL; rw [if_neg (fun h2=>h2 h),if_neg h1,if_pos h2]
theorem xe {r:gY} (h:r.2.2.2=0) (h1:r.1≠[48]) (h2:eQ r.1=0):iL r= .ok r.1:=by unfold iL; rw [if_neg (fun h2=>h2 h),if_neg h1,if_neg (fun h3=>h3 h2)]
theorem DG {kind a:Nat} {al:List (List Nat)} {r:gY} (h:r.2.2.1=false):iZ kind al a r= .ok []:=by unfold iZ; rw [if_neg (by rw [h]; exact Bool.noConfusion)]
theorem DF {kind a:Nat} {al:List (List Nat)} {r:gY} (h:r.2.2.1=true) (h1:a=1):iZ kind al a r= .error 118:=by unfold iZ; rw [if_pos h,if_pos h1]
theorem uD {kind a:Nat} {al:List (List Nat)} {r:gY} (h:r.2.2.1=true) (h1:a≠1):iZ kind al a r=eh kind al r.2.1:=by unfold iZ; rw [if_pos h,if_neg h1]
theorem zV {r:List Tx} (h:r.length≠5):iP r= .ok [46]:=if_neg h
theorem zS {r:List Tx} (h:r.length=5) (h1:dB (r.getD 4 [])=false):iP r= .error 21:=by unfold iP; rw [if_pos h,if_pos h1]
theorem zT {r:List Tx} (h:r.length=5) (h1:dB (r.getD 4 [])=true) (h2:(dC (r.getD 4 [])).2≠0):iP r= .error (dC (r.getD 4 [])).2:=by unfold iP; rw [if_pos h,if_neg (by rw [h1]; exact Bool.noConfusion),if_pos h2]
theorem zU {r:List Tx} (h:r.length=5) (h1:dB (r.getD 4 [])=true) (h2:(dC (r.getD 4 [])).2=0):iP r= .ok (lB (dC (r.getD 4 [])).1):=by unfold iP; rw [if_pos h,if_neg (by rw [h1]; exact Bool.noConfusion),if_neg (fun h3=>h3 h2)]
theorem z0 (s:Tx):(dC s).1.length≤16:=by
 unfold dC
 split
 · simp
 · split
   · simp
   · split
     · simp
     · split
       · simp
       · rename_i h; exact Nat.le_of_not_lt h
theorem s9 (B fb mc:Nat) (F:aG) (V:c5) (s:Tx) (w:World) (q:bB w B fb mc F V) (hk:F.kind=1∨F.kind=2∨F.kind=3) (hal:∀ l∈F.aliases,l.length≤64∧l.Pairwise (· < ·)) (ax:F.aliases.length≤70000) (hs:s.length≤1048576):
 aT Tryz.prog 75 (List.toArray [aU fb,str s]) w (fun v w'=>((∃ a l,v= .tuple #[a,.int .i64 0]∧eh F.kind F.aliases s= .ok l∧World.ownsRow w' w.heap.size 71 1 a l.length (l.map az))∨(∃ a e,v= .tuple #[a,U e]∧e≠0∧eh F.kind F.aliases s= .error e))∧Wk w w'):=by
 obtain ⟨am,gk,Y⟩:=dw q.eK
 have ho10:=q.eK
 rw [Y] at ho10
 have hc10:Hb.ay w.heap fb 10=some (.slice am F.aliases.length gk):=by rw [← Y]; exact (aQ q.cells).trans rfl
 refine enter Tryz.func75 rfl Tryz.ntmps75 rfl ?_
 refine ab (fun _ Z=>(p aw (ag (((Z _ _ (sq (fun _ aa=>sq (fun _ ac=> ?_)))))))))
 refine rg rfl (ae (aU fb) (p (jv oe rfl rfl) (aj ((ac _ _ (cf (rfl) (aA (tn (aa _ _ ?_)))))))))
 refine sq (fun _ ad=>ab (fun _ ah=>(ae (aU fb) (p (nc rfl) (p (fa dz rfl) (p (fa jx rfl) (p (ld kj rfl (hc10)) ?_)))))))
 refine p (bl oo rfl rfl) (p (bo rfl rfl) (aj ((ah _ _ (cd rfl (fun E=> ?_) (fun E=> ?_))))))
 have i:F.aliases= []:=List.eq_nil_of_length_eq_zero (by omega)
 refine ab (fun _ A=>(ae (aU fb) (p (nc rfl) (p (fa dz rfl) (p (fa lg rfl) (p (ld eu rfl ((aQ q.cells).trans rfl)) (ae (str s) ?_)))))))
 refine e (cl rK (tH F.kind s _ hk hs) rfl fun aC aK ao=> ?_)
 obtain ⟨⟨J,rfl,ho23⟩,hE23⟩:=ao
 refine p (xt rfl rfl) (p (xt rfl rfl) (p aw (ag (((A _ _ (rt (tr ?_))))))))
 refine f2 rfl rfl rfl ?_
 refine ⟨?_,hE23⟩
 by_cases h:(dt F.kind s).2=0
 exact .inl ⟨J,_,by rw [h]; rfl,by rw [tk i]; exact tG h,ho23⟩
 exact .inr ⟨J,_,rfl,h,by rw [tk i]; exact tE h⟩
 have i:F.aliases≠[]:=fun h=>by rw [h] at E; exact E rfl
 refine aA (tn (ad _ _ (ab (fun _ A=>(ae (str s) (ae (aU fb) (p (nc rfl) (p (fa dz rfl) ?_))))))))
 refine p (fa jx rfl) (p (ld kj rfl (hc10)) (p (bl oo rfl rfl) (e (cl nd (nP s (F.aliases.length:Nat) _ hs (by omega)) rfl fun aD aL ap=> ?_))))
 obtain ⟨rfl,c⟩:=ap
 refine p mv (p (xt rfl rfl) (p (xt rfl rfl) (p aw (ag (((A _ _ (sq (fun _ ai=> ?_)))))))))
 refine ab (fun _ I=>(p mv (p (ej rfl rfl) (p mv (gs (t:=39) rfl (fun au=> ?_) (fun au=> ?_))))))
 refine sk rfl rfl rfl rfl (sk rfl rfl rfl rfl (p (bu rfl) (aj ((I _ _ (ct rfl (ab (fun _ j=> ?_))))))))
 exact p aw (ag (((j _ _ (rt (tr (f2 rfl rfl rfl (⟨.inr ⟨.slice none 0 0,13,rfl,by decide,BG i (nN (by omega)).1⟩,c⟩))))))))
 refine pg rfl rfl rfl mv (pg rfl rfl rfl (bo rfl rfl) (p (bc rfl) (aj ((I _ _ (cd rfl (fun ar=> ?_) (fun ar=> ?_)))))))
 refine ab (fun _ j=>(p aw (ag (((j _ _ (rt (tr ?_))))))))
 refine f2 rfl rfl rfl ?_
 have hnx:=nO (by omega :(dv s (F.aliases.length:Nat)).2=0)
 rw [show (dv s (F.aliases.length:Nat)).1=0 from by omega] at hnx
 exact ⟨.inr ⟨.slice none 0 0,13,rfl,by decide,BI i hnx⟩,c⟩
 refine aA (tn (ai _ _ (sq (fun _ j=> ?_))))
 have hnx:=nO (by omega :(dv s (F.aliases.length:Nat)).2=0)
 have hnle:=qd s (F.aliases.length:Nat) (by omega)
 have M:(dv s (F.aliases.length:Nat)).1 - 1 < F.aliases.length:=by omega
 obtain ⟨aF,G,C⟩:=bM.get (q.al.wk c) M
 obtain ⟨av,yN,rfl⟩:=C.slice
 have hal51:=hal _ (du (d:= []) M)
 refine rg rfl (ae (aU fb) (p (nc rfl) (p (fa dz rfl) (p (fa jx rfl) (p (ld kj rfl (Wk.ay c hc10)) (p mv (p (bK (((dv s (F.aliases.length:Nat)).1 - 1:Nat):Int) rfl rfl (aI (by omega) (by omega))) ?_)))))))
 refine p (aH po rfl rfl (by omega) (ak.ok ((aB (aE ho10 c)).2) (fun h=>by rw [h] at G; cases G))) (p (ld gZ rfl (ak.gA (aB (aE ho10 c)).2 G)) (e (cl rM (uQ (F.aliases.getD ((dv s (F.aliases.length:Nat)).1 - 1) []) _ _ _ C.bN.2 (fun h=>Tg.nM C (by simp) h) (by omega)) rfl fun aJ aM aq=> ?_)))
 obtain ⟨O,an⟩:=aq
 rw [DU hal51.2] at O
 exact p aw (ag (((j _ _ (rt (f2 rfl rfl rfl (⟨.inl ⟨_,_,rfl,BH i hnx (by omega),fX O c.size⟩,c.trans an⟩)))))))
theorem E2 (B:Nat) (H:bd) (F:aG) (V:c5) (R:dF) (rows:List Rw) (ln:Nat) (seen:List Tx) (c:cX) (r:List Tx) (bs:Nat) (A:Option Addr) (C:Nat) (w:World) (G:bB w B H.fb H.mc F V) (E:bg w B H F R rows ln seen) (aM:fO F rows seen) (c6:c.kind=1∨c.kind=2) (hT:Tg w bs 9 r.length (.slice A r.length C) (r.map str)) (hrl:r.length≤70000∧∀ x∈r,x.length≤70000):
 cM Tryz.prog 102 (List.toArray [.pointer (some ⟨H.rb,0,none⟩),.agg (jt c).toArray,.slice A r.length C]) w (fun v w'=> ∃ q,gN F.kind F.aliases c ln r= .ok q∧q.line=ln∧(∃ vn,v= .agg (fY (q,vn)).toArray∧Tg w' B 71 q.next.length vn (q.next.map az))∧Wk w w') (fun ad w'=> ∃ e,gN F.kind F.aliases c ln r= .error e∧ad=eB 25 ln (e:Nat)∧Wk w w'):=by
 have hTs:=hT.bN
 have hrb:=(Array.getElem?_eq_some_iff.1 E.cells).1
 have hlo:=E.lo.1
 refine e5 Tryz.func102 rfl Tryz.ntmps102 rfl ?_
 refine sq (fun cT bW=>rg rfl (e (ig rfl fun aL w4 c3 bf bO=>e (al qS fun Y w6 hb6 aE hB6=> ?_))))
 have au:Wk w w6:=bf.md.trans aE.md
 have hln6:=Wk.ay au E.cy
 have hz4:=bf.size
 have hz6:=aE.size
 refine nl (tn (bW _ _ ?_))
 refine dm (fun ap wC=>(r.length=4∨r.length=5)∧(wC=w6)∧(ap 0= .pointer (some ⟨H.rb,0,none⟩))∧(ap 2= .slice A r.length C)∧(ap 4= .pointer (some ⟨aL,0,none⟩))∧(ap 6= .pointer (some ⟨Y,0,none⟩))) ?_ ?_
 refine rg rfl (p (ao (.pointer (some ⟨H.rb,0,none⟩)) rfl) (p (ao (.slice A r.length C) rfl) (p (bl dT rfl rfl) (p (bo rfl rfl) (p mv (gs (t:=20) rfl (fun cp=> ?_) (fun cp=> ?_)))))))
 refine sk rfl rfl rfl rfl (sk rfl rfl rfl rfl (sk rfl rfl rfl rfl (p (bu rfl) (eP rfl (bz dN (dQ H.rb ln _ 111 w6 hln6 (by decide)) rfl fun cP w25 aZ=> ?_) (fun c w' s M G=>by first | exact absurd s.2.1 (by decide) | exact ⟨111,vm (by omega) (by have :=of_decide_eq_false s.2.1; omega),s.1,by rw [s.2.2]; exact au⟩)))))
 obtain ⟨rfl,bm,rfl⟩:=aZ
 exact nl (tn (⟨(.inl (by omega)),rfl,rfl,rfl,rfl,rfl⟩))
 refine pg rfl rfl rfl (ao (.slice A r.length C) rfl) (pg rfl rfl rfl (bl dT rfl rfl) (pg rfl rfl rfl (bo rfl rfl) (p (bc rfl) (eP rfl (bz dN (dQ H.rb ln _ 111 w6 hln6 (by decide)) rfl fun cP w25 aZ=> ?_) (fun c w' s M G=>by first | exact absurd s.2.1 (by decide) | exact ⟨111,vm (by omega) (by have :=of_decide_eq_false s.2.1; omega),s.1,by rw [s.2.2]; exact au⟩)))))
 obtain ⟨rfl,bm,rfl⟩:=aZ
 exact nl (tn (⟨(.inr (by have :=of_decide_eq_true bm; omega)),rfl,rfl,rfl,rfl,rfl⟩))
 rintro ap wC ⟨hlen,bU,cq,cr,ct,cu⟩
 refine fx 0 cq (fx 2 cr (fx 4 ct (fx 6 cu ?_)))
 subst bU
 have hq4:=aE.md.B bO
 refine sq (fun cV bX=>rg rfl (p (fa nE rfl) (p (ld eu rfl ((hq4.ay 1).trans rfl)) (p (fa pH rfl) (p (ld ba rfl ((hq4.ay 0).trans rfl)) (p (fa tx rfl) (p (ld ra rfl ((hq4.ay 2).trans rfl)) ?_)))))))
 refine p (bT (ps:= [(0,.int .i64 (c.kind:Nat)),(1,az c.flag),(2,.bool c.gC),(5,str [46])]) (L:= [.int .i64 (c.kind:Nat),az c.flag,.bool c.gC,.string ⟨⟨[]⟩⟩,.string ⟨⟨[]⟩⟩,str [46],.slice none 0 0]) FE rfl (rfl)) (e (al qS fun b7 w7 c4 aF bP=> ?_))
 have hz7:=aF.size
 refine e (b0 o7 rfl rfl rfl rfl (bP) (by simp) fun wt2_8 ax bL=> ?_)
 have av:Wk w wt2_8:=(au.trans aF.md).trans' ax (fun k hk h=>by omega)
 have hb48:=ax.B (aF.md.B hq4) (fun h=>by omega)
 have hb68:=ax.B (aF.md.B hB6) (fun h=>by omega)
 have hz8:=ax.size
 have hT8s:=(hT.wk av).bN
 have c8:(r.getD 2 []).length≤70000:=hrl.2 _ (du (by omega))
 have c9:(r.getD 3 []).length≤70000:=hrl.2 _ (du (by omega))
 refine nl (tn (bX _ _ (sq (fun cW bY=>rg rfl (p (ao (.pointer (some ⟨H.rb,0,none⟩)) rfl) (p (ao (.slice A r.length C) rfl) (p (aH bZ rfl rfl (by omega) (ak.ok (hT8s.2) (bG (by omega)))) (p (ld bQ rfl (bE.get (i:=2) hT8s.2 (by omega))) ?_))))))))
 refine eP rfl (bz rJ (uW H.rb ln (r.getD 2 []) wt2_8 (Wk.ay av E.cy) (by omega)) rfl fun dc w37 b4=> ?_) (fun c w' s M G=>by obtain ⟨e,he,h,h2⟩:=s; exact ⟨e,by rw [j5 hlen,he],h,av.trans h2⟩)
 obtain ⟨stx,bF,rfl,ag⟩:=b4
 refine p (fa BO rfl) (e (st kr rfl rfl (rfl) (ag.B bL) (by simp) fun wt3_6 aC bM=> ?_))
 have a7:a9 wt3_6.heap b7 [.int .i64 (c.kind:Nat),az c.flag,.bool c.gC,str stx,str [],str [46],.slice none 0 0]:=bM
 have a8:Wk w wt3_6:=(av.trans ag).trans' aC (fun k hk h=>by omega)
 have hz37:=ag.size
 have hb43:=aC.B (ag.B hb48) (fun h=>by omega)
 have hb63:=aC.B (ag.B hb68) (fun h=>by omega)
 have hT3s:=(hT.wk a8).bN
 have hz3:=aC.size
 refine nl (tn (bY _ _ (sq (fun cY b1=>rg rfl (p (ao (.slice A r.length C) rfl) (p (aH bZ rfl rfl (by omega) (ak.ok (hT3s.2) (bG (by omega)))) (p (ld bQ rfl (bE.get (i:=3) hT3s.2 (by omega))) (e (cl oT (qO (r.getD 3 []) _ (by omega)) rfl fun dd w43 b5=> ?_)))))))))
 obtain ⟨rfl,hE43⟩:=b5
 have hE4:=a8.trans hE43
 have hwl:=oz (r.getD 3 [])
 refine p mv (p (xt rfl rfl) (p (xt rfl rfl) (p (xt rfl rfl) (p (xt rfl rfl) (p aw (p aw (p aw ?_)))))))
 refine p aw (nl (tn (b1 _ _ (sq (fun cZ b2=>rg rfl (p (ao (.pointer (some ⟨H.rb,0,none⟩)) rfl) (p mv (eP rfl (bz iO (iY H.rb ln ((aW (r.getD 3 [])).2.2.2:Nat) w43 (Wk.ay hE4 E.cy)) rfl fun de cR b6=> ?_) (fun c w' s M G=>⟨_,by rw [j5 hlen,bF,xc (show (aW (r.getD 3 [])).2.2.2≠0 by have :=s.2.1; omega)],s.1,by rw [s.2.2]; exact hE4⟩)))))))))
 obtain ⟨rfl,aJ,rfl⟩:=b6
 have aJ:(aW (r.getD 3 [])).2.2.2=0:=by omega
 refine nl (tn (b2 _ _ ?_))
 refine dm (fun O ac=> ∃ (U:Tx),(iL (aW (r.getD 3 []))= .ok U)∧(a9 ac.heap b7 [.int .i64 (c.kind:Nat),az c.flag,.bool c.gC,str stx,str U,str [46],.slice none 0 0])∧(a9 ac.heap aL (jt c))∧(∃ L,L.length=7∧a9 ac.heap Y L)∧(Wk w ac)∧(O 0= .pointer (some ⟨H.rb,0,none⟩))∧(O 2= .slice A r.length C)∧(O 4= .pointer (some ⟨aL,0,none⟩))∧(O 6= .pointer (some ⟨Y,0,none⟩))∧(O 7= .pointer (some ⟨b7,0,none⟩))∧(O 9=str (aW (r.getD 3 [])).2.1)∧(O 10= .bool (aW (r.getD 3 [])).2.2.1)) ?_ ?_
 refine sq (fun aK Z=>rg rfl (p mv (p (lx rfl rfl) (nl (tn (Z _ _ (cd rfl (fun aI=> ?_) (fun aI=> ?_))))))))
 refine rg rfl (p (ao (.pointer (some ⟨H.rb,0,none⟩)) rfl) (p mv (eP rfl (bz rN (u7 H.rb ln (aW (r.getD 3 [])).1 cR (Wk.ay hE4 E.cy) (by omega)) rfl fun df dn b8=> ?_) (fun c w' s M G=>⟨_,by rw [j5 hlen,bF,xd aJ aI s.2.1],s.1,hE4.trans s.2.2⟩))))
 obtain ⟨rfl,cL,ah⟩:=b8
 refine p (fa BP rfl) (e (st kr rfl rfl (rfl) (Wk.B (hE43.trans ah) a7) (by simp) fun wt7_4 aY bR=> ?_))
 have hE7:Wk w wt7_4:=(hE4.trans ah).trans' aY (fun k hk h=>by omega)
 have hz5:=(hE43.trans ah).size
 exact nl (tn (⟨(aW (r.getD 3 [])).1,(xe aJ aI cL),bR,(aY.B (Wk.B (hE43.trans ah) hb43) (fun h=>by omega)),(⟨_,rfl,aY.B (Wk.B (hE43.trans ah) hb63) (fun h=>by omega)⟩),hE7,rfl,rfl,rfl,rfl,rfl,rfl,rfl⟩))
 exact aA (tn (⟨[],(xf aJ (Classical.not_not.1 aI)),(hE43.B a7),(hE43.B hb43),(⟨_,rfl,hE43.B hb63⟩),hE4,rfl,rfl,rfl,rfl,rfl,rfl,rfl⟩))
 rintro O ac ⟨U,aj,ar,ci,bj,I,cv,cx,cz,cA,cB,cD,cw⟩
 refine fx 0 cv (fx 2 cx (fx 4 cz (fx 6 cA (fx 7 cB (fx 9 cD (fx 10 cw ?_))))))
 skip
 refine dm (fun aq J=> ∃ (nx:List Nat) (vn:Value),(iZ F.kind F.aliases c.kind (aW (r.getD 3 []))= .ok nx)∧(a9 J.heap b7 [.int .i64 (c.kind:Nat),az c.flag,.bool c.gC,str stx,str U,str [46],vn])∧(Tg J (b7+1) 71 nx.length vn (nx.map az))∧(∃ L,L.length=7∧a9 J.heap Y L)∧(Wk w J)∧(aq 0= .pointer (some ⟨H.rb,0,none⟩))∧(aq 2= .slice A r.length C)∧(aq 6= .pointer (some ⟨Y,0,none⟩))∧(aq 7= .pointer (some ⟨b7,0,none⟩))) ?_ ?_
 refine sq (fun aK Z=>rg rfl (p (ao (.bool (aW (r.getD 3 [])).2.2.1) rfl) (nl (tn (Z _ _ (cb rfl (fun am=> ?_) (fun am=> ?_)))))))
 skip
 refine sq (fun bt aR=>rg rfl (p (ao (.pointer (some ⟨H.rb,0,none⟩)) rfl) (p (fa nE rfl) (p (ld eu rfl ((ci.ay 1).trans rfl)) (p (bo rfl rfl) (eP rfl (bz dN (dQ H.rb ln _ 118 ac (Wk.ay I E.cy) (by decide)) rfl fun dg bq b9=> ?_) (fun ad w' s M G=>by have h0:=of_decide_eq_false s.2.1; exact ⟨118,by rw [j5 hlen,bF]; simp only; rw [aj]; simp only; rw [DF am (by omega)],s.1,by rw [s.2.2]; exact I⟩)))))))
 obtain ⟨rfl,hx62,rfl⟩:=b9
 have hx62:=of_decide_eq_true hx62
 refine nl (tn (aR _ _ (sq (fun bv aS=>rg rfl (p (ao (.pointer (some ⟨H.rb,0,none⟩)) rfl) (p (nc rfl) (p (fa dI rfl) (p (ld dx rfl (Wk.ay I ((aQ E.cells).trans rfl))) ?_))))))))
 refine p (ao (str (aW (r.getD 3 [])).2.1) rfl) (e (cl sd (s9 B H.fb H.mc F V (aW (r.getD 3 [])).2.1 _ (G.wk I) aM.kd aM.al (by have :=aM.len; omega) (by have :=oz (r.getD 3 []); omega)) rfl fun cQ br ca=> ?_))
 obtain ⟨cn,aa⟩:=ca
 obtain ⟨a5,a6,rfl,hcs⟩:∃ a,∃ e:Nat,cQ= .tuple #[a,.int .i64 (e:Nat)]∧((e=0∧∃ l,eh F.kind F.aliases (aW (r.getD 3 [])).2.1= .ok l∧World.ownsRow br bq.heap.size 71 1 a l.length (l.map az))∨(e≠0∧eh F.kind F.aliases (aW (r.getD 3 [])).2.1= .error e)):=by
  rcases cn with ⟨a,l,h1,h2,h3⟩ | ⟨a,e,h1,h2,h3⟩
  exact ⟨a,0,h1,.inl ⟨rfl,l,h2,h3⟩⟩
  exact ⟨a,e,h1,.inr ⟨h2,h3⟩⟩
 refine p mv (p (xt rfl rfl) (p (xt rfl rfl) (p aw (p aw (nl (tn (aS _ _ (sq (fun bw aT=> ?_)))))))))
 refine rg rfl (p (ao (.pointer (some ⟨H.rb,0,none⟩)) rfl) (p mv ?_))
 refine eP rfl (bz iO (iY H.rb ln (a6:Nat) br (Wk.ay (I.trans aa) E.cy)) rfl fun dh cS cc=> ?_) (fun ad w' s M G=>by
  rcases hcs with ⟨h,_⟩ | ⟨h,h1⟩
  exact absurd (by omega) s.2.1
  exact ⟨a6,by rw [j5 hlen,bF]; simp only; rw [aj]; simp only; rw [uD am (by omega),h1],s.1,by rw [s.2.2]; exact I.trans aa⟩)
 obtain ⟨rfl,db,rfl⟩:=cc
 obtain ⟨nx,hnx,a0⟩:∃ l,eh F.kind F.aliases (aW (r.getD 3 [])).2.1= .ok l∧World.ownsRow cS bq.heap.size 71 1 a5 l.length (l.map az):=by
  rcases hcs with ⟨_,h⟩ | ⟨h,_⟩
  exact h
  exact absurd (by omega) h
 refine nl (tn (aT _ _ (rg rfl (p mv (p (fa nD rfl) (e (st np rfl rfl (dA a0) (aa.B ar) (by simp) fun wt12_2 aV bD=> ?_)))))))
 have hE12:Wk w wt12_2:=(I.trans aa).trans' aV (fun k hk h=>by omega)
 have hz69:=aa.size
 exact nl (tn (⟨nx,a5,((by rw [uD am (by omega)]; exact hnx)),bD,(((Tg.fW (bA a0 aV (fun k hk h=>by have :=cU a0 hk; have :=ar.lt; omega))).mono ar.lt)),((by obtain ⟨L,aU,hb⟩:=bj; exact ⟨L,aU,aV.B (aa.B hb) (fun h=>by omega)⟩)),hE12,rfl,rfl,rfl,rfl⟩))
 exact aA (tn (⟨[],.slice none 0 0,(DG (by simpa using am)),ar,(⟨none,0,rfl,Nat.le_refl _,.inl rfl⟩),bj,I,rfl,rfl,rfl,rfl⟩))
 rintro aq J ⟨nx,vn,hnx,aN,bi,bk,ai,cE,cF,cG,cH⟩
 refine fx 0 cE (fx 2 cF (fx 6 cG (fx 7 cH ?_)))
 refine dm (fun a4 an=> ∃ (ae:Tx),(iP r= .ok ae)∧(a9 an.heap b7 [.int .i64 (c.kind:Nat),az c.flag,.bool c.gC,str stx,str U,str ae,vn])∧(Tg an (b7+1) 71 nx.length vn (nx.map az))∧(∃ L,L.length=7∧a9 an.heap Y L)∧(Wk w an)∧(a4 6= .pointer (some ⟨Y,0,none⟩))∧(a4 7= .pointer (some ⟨b7,0,none⟩))) ?_ ?_
 refine sq (fun aK Z=>rg rfl (p (ao (.slice A r.length C) rfl) (p (bl dT rfl rfl) (p (bo rfl rfl) (nl (tn (Z _ _ (cd rfl (fun cm=> ?_) (fun cm=> ?_)))))))))
 have a2:r.length=5:=by omega
 have da:(r.getD 4 []).length≤70000:=hrl.2 _ (du (by omega))
 have hTDs:=(hT.wk ai).bN
 refine sq (fun bt aR=>rg rfl (p (ao (.pointer (some ⟨H.rb,0,none⟩)) rfl) (p (ao (.slice A r.length C) rfl) (p (aH bZ rfl rfl (by omega) (ak.ok (hTDs.2) (bG (by omega)))) (p (ld bQ rfl (bE.get (i:=4) hTDs.2 (by omega))) (eP rfl (bz oV (qt H.rb ln (r.getD 4 []) J (Wk.ay ai E.cy) (by omega)) rfl fun di dq ce=> ?_) (fun ad w' s M G=>⟨21,by rw [j5 hlen,bF]; simp only; rw [aj]; simp only; rw [hnx]; simp only; rw [zS a2 s.2.1],s.1,ai.trans s.2.2⟩)))))))
 obtain ⟨rfl,bn,aP⟩:=ce
 have hE84x:=ai.trans aP
 have hTEs:=(hT.wk hE84x).bN
 refine nl (tn (aR _ _ (sq (fun bv aS=>rg rfl (p (ao (.slice A r.length C) rfl) (p (aH bZ rfl rfl (by omega) (ak.ok (hTEs.2) (bG (by omega)))) (p (ld bQ rfl (bE.get (i:=4) hTEs.2 (by omega))) (e (cl x6 (z1 (r.getD 4 []) _ (by omega)) rfl fun dj dr cf=> ?_)))))))))
 obtain ⟨⟨c1,rfl,a1⟩,hE89⟩:=cf
 obtain ⟨cN,cO,rfl⟩:=dw a1
 have hE89x:=hE84x.trans hE89
 refine p mv (p (xt rfl rfl) (p (xt rfl rfl) (e (al qT fun c2 w14 hb14 aD bH=> ?_))))
 have hE14:=hE89x.trans aD.md
 refine e (b0 kq rfl rfl rfl rfl (bH) (by simp) fun wt15_8 ab bI=> ?_)
 have aO:Wk w wt15_8:=hE14.trans' ab (fun k hk h=>by have :=hE89x.size; omega)
 have a3:Wk J w14:=(aP.trans hE89).trans aD.md
 have hzD:=aP.size
 have hzE:=hE89.size
 have hzF:=aD.size
 have hzG:=ab.size
 have cK:Wk J wt15_8:=a3.trans' ab (fun k hk h=>by omega)
 refine p aw (nl (tn (aS _ _ (sq (fun bw aT=>rg rfl (p (ao (.pointer (some ⟨H.rb,0,none⟩)) rfl) (p mv (eP rfl (bz iO (iY H.rb ln ((dC (r.getD 4 [])).2:Nat) wt15_8 (Wk.ay aO E.cy)) rfl fun dk ds cg=> ?_) (fun ad w' s M G=>⟨_,by rw [j5 hlen,bF]; simp only; rw [aj]; simp only; rw [hnx]; simp only; rw [zT a2 bn (by have :=s.2.1; omega)],s.1,by rw [s.2.2]; exact aO⟩)))))))))
 obtain ⟨rfl,bp,rfl⟩:=cg
 have bp:(dC (r.getD 4 [])).2=0:=by omega
 refine nl (tn (aT _ _ (rg rfl (p (dp jR rfl (rfl) (fun j hj=>bI.cC j)) (e (cl x7 (Es (dC (r.getD 4 [])).1 cN cO _ (ak.md (ak.wk (aB a1).2 aD.md) ab (fun hne h=>by have :=D3 a1 hne; omega)) (by have :=z0 (r.getD 4 []); omega)) rfl fun dl w96 ch=> ?_))))))
 obtain ⟨rfl,hE96⟩:=ch
 have hE96x:=aO.trans hE96
 have hz96:=hE96.size
 refine p (fa BQ rfl) (e (st kr rfl rfl (rfl) (hE96.B (ab.B (a3.B aN) (fun h=>by have :=aN.lt; omega))) (by simp) fun wt17_3 aX bJ=> ?_))
 have hE17:Wk w wt17_3:=hE96x.trans' aX (fun k hk h=>by omega)
 exact nl (tn (⟨lB (dC (r.getD 4 [])).1,(zU a2 bn bp),bJ,((Tg.uA (Tg.wk bi (cK.trans hE96)) aX (fun k hk=>by omega))),((by obtain ⟨L,aU,hb⟩:=bk; exact ⟨L,aU,aX.B (hE96.B (ab.B (a3.B hb) (fun h=>by have :=hb.lt; omega))) (fun h=>by omega)⟩)),hE17,rfl,rfl⟩))
 exact aA (tn (⟨[46],(zV (by omega)),aN,bi,bk,ai,rfl,rfl⟩))
 rintro a4 an ⟨ae,co,bS,bh,cj,bV,cI,cJ⟩
 refine fx 6 cI (fx 7 cJ ?_)
 obtain ⟨c0,b3,ck⟩:=cj
 obtain ⟨bx,bC,rfl⟩:=bh.slice
 refine sq (fun aK Z=>rg rfl (p (dp oG rfl (rfl) (fun j hj=>bS.cC j)) (e (b0 o7 rfl rfl rfl rfl (ck) (by rw [b3]; decide) fun dt bb bK=>nl (tn (Z _ _ (rt (eR ?_))))))))
 exact l5 rfl (c7 (cs:=fY (⟨c.kind,c.flag,c.gC,stx,U,ae,nx,ln⟩,.slice bx nx.length bC)) rfl oG rfl (fun j hj=>by rw [bK.cC j,List.drop_eq_nil_of_le (by omega),List.append_nil]; rfl)) (⟨⟨c.kind,c.flag,c.gC,stx,U,ae,nx,ln⟩,by rw [j5 hlen,bF]; simp only; rw [aj]; simp only; rw [hnx]; simp only; rw [co],rfl,⟨_,rfl,(Tg.uA bh bb (fun k hk=>by have :=aE.size; omega)).mono (by omega)⟩,bV.trans' bb (fun k hk h=>by omega)⟩)
end Go.Hb.fF
end
section
set_option maxRecDepth 20000
set_option maxHeartbeats 1000000
namespace Go.Hb.jN
open Go.Hb.cJ
open Go.Proofs
open Go.Hb.eM
def dP (s:Tx):Option Value:=if s=bO then some (Value.agg #[.int .i64 (4:Nat),.func (.func 65) #[] #[]]) else if s=eV then some (Value.agg #[.int .i64 (4:Nat),.func (.func 65) #[] #[]]) else if s=eT then some (Value.agg #[.int .i64 (2:Nat),.func (.func 64) #[] #[]]) else if s=e8 then some (Value.agg #[.int .i64 (2:Nat),.func (.func 63) #[] #[]]) else if s=gI then some (Value.agg #[.int .i64 (2:Nat),.func (.func 62) #[] #[]]) else if s=gr then some (Value.agg #[.int .i64 (2:Nat),.func (.func 61) #[] #[]]) else if s=fT then some (Value.agg #[.int .i64 (2:Nat),.func (.func 61) #[] #[]]) else if s=fL then some (Value.agg #[.int .i64 (2:Nat),.func (.func 61) #[] #[]]) else if s=fA then some (Value.agg #[.int .i64 (2:Nat),.func (.func 61) #[] #[]]) else if s=fp then some (Value.agg #[.int .i64 (2:Nat),.func (.func 61) #[] #[]]) else if s=e9 then some (Value.agg #[.int .i64 (2:Nat),.func (.func 60) #[] #[]]) else if s=eZ then some (Value.agg #[.int .i64 (2:Nat),.func (.func 59) #[] #[]]) else if s=eU then some (Value.agg #[.int .i64 (2:Nat),.func (.func 58) #[] #[]]) else none
def zF:Value→Option Value:=fun _=>none
def zG:Tx→Option Value:=fun _=>none
theorem str_inj {a b:Tx} :str a=str b↔a=b:=⟨fun h=>by unfold str at h; cases h; rfl,fun h=>by rw [h]⟩
theorem gL {f:Value→Option Value} {g:Tx→Option Value} {k:Tx} {v:Value} (h:∀ s,f (str s)=g s) (s:Tx):aX f (str k) v (str s)=if s=k then some v else g s:=by
 by_cases hs:s=k
 · subst hs; rw [mr,if_pos rfl]
 · rw [lA (fun h2=>hs (str_inj.1 h2)),if_neg hs,h s]
theorem Cs (w:World):
 aT Tryz.prog 32 (List.toArray []) w (fun v w'=> ∃ b,v= .map (some b)∧b=w.heap.size∧(∃ f,bf w'.heap b eC f∧∀ s,f (str s)=dP s)∧Wk w w'):=by
 refine enter Tryz.func32 rfl Tryz.ntmps32 rfl ?_
 refine ab (fun _ c=>(ag (((c _ _ (ab (fun _ i=>(e (mj fun a w1 aR an hB1=> ?_)))))))))
 have ao:bf w1.heap a eC zF:=bf.nil hB1
 have aS:∀ s:Tx,zF (str s)=zG s:=fun _=>rfl
 have j:Wk w w1:=an.md
 refine p (bT (ps:= [(0,U 2),(1,.func (.func 58) #[] #[])]) (L:= [U 2,.func (.func 58) #[] #[]]) gS rfl (rfl)) (e (gH gv ei (ao) rfl rfl rfl (⟨_,rfl⟩) fun wm1_2 ad aw=> ?_))
 have aE:bf wm1_2.heap a eC (aX zF (str eU) (Value.agg #[U 2,.func (.func 58) #[] #[]])):=aw
 have hg1:=gL (k:=eU) (v:=Value.agg #[U 2,.func (.func 58) #[] #[]]) aS
 have q:Wk w wm1_2:=j.trans' ad (fun k hk h=>by omega)
 refine p (bT (ps:= [(0,U 2),(1,.func (.func 59) #[] #[])]) (L:= [U 2,.func (.func 59) #[] #[]]) gS rfl (rfl)) (e (gH gv ei (aE) rfl rfl rfl (⟨_,rfl⟩) fun wm1_4 ak aB=> ?_))
 have aF:bf wm1_4.heap a eC (aX (aX zF (str eU) (Value.agg #[U 2,.func (.func 58) #[] #[]])) (str eZ) (Value.agg #[U 2,.func (.func 59) #[] #[]])):=aB
 have hg2:=gL (k:=eZ) (v:=Value.agg #[U 2,.func (.func 59) #[] #[]]) hg1
 have G:Wk w wm1_4:=q.trans' ak (fun k hk h=>by omega)
 refine p (bT (ps:= [(0,U 2),(1,.func (.func 60) #[] #[])]) (L:= [U 2,.func (.func 60) #[] #[]]) gS rfl (rfl)) (e (gH gv ei (aF) rfl rfl rfl (⟨_,rfl⟩) fun wm1_6 al aC=> ?_))
 have aJ:bf wm1_6.heap a eC (aX (aX (aX zF (str eU) (Value.agg #[U 2,.func (.func 58) #[] #[]])) (str eZ) (Value.agg #[U 2,.func (.func 59) #[] #[]])) (str e9) (Value.agg #[U 2,.func (.func 60) #[] #[]])):=aC
 have hg3:=gL (k:=e9) (v:=Value.agg #[U 2,.func (.func 60) #[] #[]]) hg2
 have I:Wk w wm1_6:=G.trans' al (fun k hk h=>by omega)
 refine p (bT (ps:= [(0,U 2),(1,.func (.func 61) #[] #[])]) (L:= [U 2,.func (.func 61) #[] #[]]) gS rfl (rfl)) (e (gH gv ei (aJ) rfl rfl rfl (⟨_,rfl⟩) fun wm1_8 am aD=> ?_))
 have aK:bf wm1_8.heap a eC (aX (aX (aX (aX zF (str eU) (Value.agg #[U 2,.func (.func 58) #[] #[]])) (str eZ) (Value.agg #[U 2,.func (.func 59) #[] #[]])) (str e9) (Value.agg #[U 2,.func (.func 60) #[] #[]])) (str fp) (Value.agg #[U 2,.func (.func 61) #[] #[]])):=aD
 have hg4:=gL (k:=fp) (v:=Value.agg #[U 2,.func (.func 61) #[] #[]]) hg3
 have hE4:Wk w wm1_8:=I.trans' am (fun k hk h=>by omega)
 refine p (bT (ps:= [(0,U 2),(1,.func (.func 61) #[] #[])]) (L:= [U 2,.func (.func 61) #[] #[]]) gS rfl (rfl)) (e (gH gv ei (aK) rfl rfl rfl (⟨_,rfl⟩) fun wm1_10 V ap=> ?_))
 have aL:bf wm1_10.heap a eC (aX (aX (aX (aX (aX zF (str eU) (Value.agg #[U 2,.func (.func 58) #[] #[]])) (str eZ) (Value.agg #[U 2,.func (.func 59) #[] #[]])) (str e9) (Value.agg #[U 2,.func (.func 60) #[] #[]])) (str fp) (Value.agg #[U 2,.func (.func 61) #[] #[]])) (str fA) (Value.agg #[U 2,.func (.func 61) #[] #[]])):=ap
 have hg5:=gL (k:=fA) (v:=Value.agg #[U 2,.func (.func 61) #[] #[]]) hg4
 have hE5:Wk w wm1_10:=hE4.trans' V (fun k hk h=>by omega)
 refine p (bT (ps:= [(0,U 2),(1,.func (.func 61) #[] #[])]) (L:= [U 2,.func (.func 61) #[] #[]]) gS rfl (rfl)) (e (gH gv ei (aL) rfl rfl rfl (⟨_,rfl⟩) fun wm1_12 Y aq=> ?_))
 have aM:bf wm1_12.heap a eC (aX (aX (aX (aX (aX (aX zF (str eU) (Value.agg #[U 2,.func (.func 58) #[] #[]])) (str eZ) (Value.agg #[U 2,.func (.func 59) #[] #[]])) (str e9) (Value.agg #[U 2,.func (.func 60) #[] #[]])) (str fp) (Value.agg #[U 2,.func (.func 61) #[] #[]])) (str fA) (Value.agg #[U 2,.func (.func 61) #[] #[]])) (str fL) (Value.agg #[U 2,.func (.func 61) #[] #[]])):=aq
 have hg6:=gL (k:=fL) (v:=Value.agg #[U 2,.func (.func 61) #[] #[]]) hg5
 have J:Wk w wm1_12:=hE5.trans' Y (fun k hk h=>by omega)
 refine p (bT (ps:= [(0,U 2),(1,.func (.func 61) #[] #[])]) (L:= [U 2,.func (.func 61) #[] #[]]) gS rfl (rfl)) (e (gH gv ei (aM) rfl rfl rfl (⟨_,rfl⟩) fun wm1_14 Z ar=> ?_))
 have aN:bf wm1_14.heap a eC (aX (aX (aX (aX (aX (aX (aX zF (str eU) (Value.agg #[U 2,.func (.func 58) #[] #[]])) (str eZ) (Value.agg #[U 2,.func (.func 59) #[] #[]])) (str e9) (Value.agg #[U 2,.func (.func 60) #[] #[]])) (str fp) (Value.agg #[U 2,.func (.func 61) #[] #[]])) (str fA) (Value.agg #[U 2,.func (.func 61) #[] #[]])) (str fL) (Value.agg #[U 2,.func (.func 61) #[] #[]])) (str fT) (Value.agg #[U 2,.func (.func 61) #[] #[]])):=ar
 have hg7:=gL (k:=fT) (v:=Value.agg #[U 2,.func (.func 61) #[] #[]]) hg6
 have hE7:Wk w wm1_14:=J.trans' Z (fun k hk h=>by omega)
 refine p (bT (ps:= [(0,U 2),(1,.func (.func 61) #[] #[])]) (L:= [U 2,.func (.func 61) #[] #[]]) gS rfl (rfl)) (e (gH gv ei (aN) rfl rfl rfl (⟨_,rfl⟩) fun wm1_16 aa au=> ?_))
 have aO:bf wm1_16.heap a eC (aX (aX (aX (aX (aX (aX (aX (aX zF (str eU) (Value.agg #[U 2,.func (.func 58) #[] #[]])) (str eZ) (Value.agg #[U 2,.func (.func 59) #[] #[]])) (str e9) (Value.agg #[U 2,.func (.func 60) #[] #[]])) (str fp) (Value.agg #[U 2,.func (.func 61) #[] #[]])) (str fA) (Value.agg #[U 2,.func (.func 61) #[] #[]])) (str fL) (Value.agg #[U 2,.func (.func 61) #[] #[]])) (str fT) (Value.agg #[U 2,.func (.func 61) #[] #[]])) (str gr) (Value.agg #[U 2,.func (.func 61) #[] #[]])):=au
 have hg8:=gL (k:=gr) (v:=Value.agg #[U 2,.func (.func 61) #[] #[]]) hg7
 have M:Wk w wm1_16:=hE7.trans' aa (fun k hk h=>by omega)
 refine p (bT (ps:= [(0,U 2),(1,.func (.func 62) #[] #[])]) (L:= [U 2,.func (.func 62) #[] #[]]) gS rfl (rfl)) (e (gH gv ei (aO) rfl rfl rfl (⟨_,rfl⟩) fun wm1_18 ac av=> ?_))
 have aP:bf wm1_18.heap a eC (aX (aX (aX (aX (aX (aX (aX (aX (aX zF (str eU) (Value.agg #[U 2,.func (.func 58) #[] #[]])) (str eZ) (Value.agg #[U 2,.func (.func 59) #[] #[]])) (str e9) (Value.agg #[U 2,.func (.func 60) #[] #[]])) (str fp) (Value.agg #[U 2,.func (.func 61) #[] #[]])) (str fA) (Value.agg #[U 2,.func (.func 61) #[] #[]])) (str fL) (Value.agg #[U 2,.func (.func 61) #[] #[]])) (str fT) (Value.agg #[U 2,.func (.func 61) #[] #[]])) (str gr) (Value.agg #[U 2,.func (.func 61) #[] #[]])) (str gI) (Value.agg #[U 2,.func (.func 62) #[] #[]])):=av
 have hg9:=gL (k:=gI) (v:=Value.agg #[U 2,.func (.func 62) #[] #[]]) hg8
 have O:Wk w wm1_18:=M.trans' ac (fun k hk h=>by omega)
 refine p (bT (ps:= [(0,U 2),(1,.func (.func 63) #[] #[])]) (L:= [U 2,.func (.func 63) #[] #[]]) gS rfl (rfl)) (e (gH gv ei (aP) rfl rfl rfl (⟨_,rfl⟩) fun wm1_20 ae ax=> ?_))
 have aQ:bf wm1_20.heap a eC (aX (aX (aX (aX (aX (aX (aX (aX (aX (aX zF (str eU) (Value.agg #[U 2,.func (.func 58) #[] #[]])) (str eZ) (Value.agg #[U 2,.func (.func 59) #[] #[]])) (str e9) (Value.agg #[U 2,.func (.func 60) #[] #[]])) (str fp) (Value.agg #[U 2,.func (.func 61) #[] #[]])) (str fA) (Value.agg #[U 2,.func (.func 61) #[] #[]])) (str fL) (Value.agg #[U 2,.func (.func 61) #[] #[]])) (str fT) (Value.agg #[U 2,.func (.func 61) #[] #[]])) (str gr) (Value.agg #[U 2,.func (.func 61) #[] #[]])) (str gI) (Value.agg #[U 2,.func (.func 62) #[] #[]])) (str e8) (Value.agg #[U 2,.func (.func 63) #[] #[]])):=ax
 have hg10:=gL (k:=e8) (v:=Value.agg #[U 2,.func (.func 63) #[] #[]]) hg9
 have A:Wk w wm1_20:=O.trans' ae (fun k hk h=>by omega)
 refine p (bT (ps:= [(0,U 2),(1,.func (.func 64) #[] #[])]) (L:= [U 2,.func (.func 64) #[] #[]]) gS rfl (rfl)) (e (gH gv ei (aQ) rfl rfl rfl (⟨_,rfl⟩) fun wm1_22 ah ay=> ?_))
 have aG:bf wm1_22.heap a eC (aX (aX (aX (aX (aX (aX (aX (aX (aX (aX (aX zF (str eU) (Value.agg #[U 2,.func (.func 58) #[] #[]])) (str eZ) (Value.agg #[U 2,.func (.func 59) #[] #[]])) (str e9) (Value.agg #[U 2,.func (.func 60) #[] #[]])) (str fp) (Value.agg #[U 2,.func (.func 61) #[] #[]])) (str fA) (Value.agg #[U 2,.func (.func 61) #[] #[]])) (str fL) (Value.agg #[U 2,.func (.func 61) #[] #[]])) (str fT) (Value.agg #[U 2,.func (.func 61) #[] #[]])) (str gr) (Value.agg #[U 2,.func (.func 61) #[] #[]])) (str gI) (Value.agg #[U 2,.func (.func 62) #[] #[]])) (str e8) (Value.agg #[U 2,.func (.func 63) #[] #[]])) (str eT) (Value.agg #[U 2,.func (.func 64) #[] #[]])):=ay
 have hg11:=gL (k:=eT) (v:=Value.agg #[U 2,.func (.func 64) #[] #[]]) hg10
 have C:Wk w wm1_22:=A.trans' ah (fun k hk h=>by omega)
 refine p (bT (ps:= [(0,U 4),(1,.func (.func 65) #[] #[])]) (L:= [U 4,.func (.func 65) #[] #[]]) gS rfl (rfl)) (e (gH gv ei (aG) rfl rfl rfl (⟨_,rfl⟩) fun wm1_24 ai az=> ?_))
 have aH:bf wm1_24.heap a eC (aX (aX (aX (aX (aX (aX (aX (aX (aX (aX (aX (aX zF (str eU) (Value.agg #[U 2,.func (.func 58) #[] #[]])) (str eZ) (Value.agg #[U 2,.func (.func 59) #[] #[]])) (str e9) (Value.agg #[U 2,.func (.func 60) #[] #[]])) (str fp) (Value.agg #[U 2,.func (.func 61) #[] #[]])) (str fA) (Value.agg #[U 2,.func (.func 61) #[] #[]])) (str fL) (Value.agg #[U 2,.func (.func 61) #[] #[]])) (str fT) (Value.agg #[U 2,.func (.func 61) #[] #[]])) (str gr) (Value.agg #[U 2,.func (.func 61) #[] #[]])) (str gI) (Value.agg #[U 2,.func (.func 62) #[] #[]])) (str e8) (Value.agg #[U 2,.func (.func 63) #[] #[]])) (str eT) (Value.agg #[U 2,.func (.func 64) #[] #[]])) (str eV) (Value.agg #[U 4,.func (.func 65) #[] #[]])):=az
 have hg12:=gL (k:=eV) (v:=Value.agg #[U 4,.func (.func 65) #[] #[]]) hg11
 have hE12:Wk w wm1_24:=C.trans' ai (fun k hk h=>by omega)
 refine p (bT (ps:= [(0,U 4),(1,.func (.func 65) #[] #[])]) (L:= [U 4,.func (.func 65) #[] #[]]) gS rfl (rfl)) (e (gH gv ei (aH) rfl rfl rfl (⟨_,rfl⟩) fun wm1_26 aj aA=> ?_))
 have aI:bf wm1_26.heap a eC (aX (aX (aX (aX (aX (aX (aX (aX (aX (aX (aX (aX (aX zF (str eU) (Value.agg #[U 2,.func (.func 58) #[] #[]])) (str eZ) (Value.agg #[U 2,.func (.func 59) #[] #[]])) (str e9) (Value.agg #[U 2,.func (.func 60) #[] #[]])) (str fp) (Value.agg #[U 2,.func (.func 61) #[] #[]])) (str fA) (Value.agg #[U 2,.func (.func 61) #[] #[]])) (str fL) (Value.agg #[U 2,.func (.func 61) #[] #[]])) (str fT) (Value.agg #[U 2,.func (.func 61) #[] #[]])) (str gr) (Value.agg #[U 2,.func (.func 61) #[] #[]])) (str gI) (Value.agg #[U 2,.func (.func 62) #[] #[]])) (str e8) (Value.agg #[U 2,.func (.func 63) #[] #[]])) (str eT) (Value.agg #[U 2,.func (.func 64) #[] #[]])) (str eV) (Value.agg #[U 4,.func (.func 65) #[] #[]])) (str bO) (Value.agg #[U 4,.func (.func 65) #[] #[]])):=aA
 have hg13:=gL (k:=bO) (v:=Value.agg #[U 4,.func (.func 65) #[] #[]]) hg12
 have E:Wk w wm1_26:=hE12.trans' aj (fun k hk h=>by omega)
 exact p mv (ag (((i _ _ (rt (f1 rfl rfl (⟨a,rfl,aR,⟨_,aI,fun s=>hg13 s⟩,E⟩)))))))
end Go.Hb.jN
end
section
set_option maxRecDepth 20000
set_option maxHeartbeats 1000000
namespace Go.Hb.jl
open Go.Hb.cJ
open Go.Proofs
open Go.Hb.eM Go.Hb.fg Go.Hb.jk Go.Hb.fF Go.Hb.ib Go.Hb.gX Go.Hb.ke Go.Hb.fH Go.Hb.kP Go.Hb.lP Go.Hb.gx Go.Hb.fQ
theorem bB.xF {w w1 c:World} {B fb mc:Nat} {F:aG} {V:c5} {v:Value} {x:Tx×Tx} (h:bB w B fb mc F V) (hm:Md (fun k=>V.v9.ownBlock=some k) w w1) (j:World.ownsRow w1 B 163 2 v (F.bH++ [x]).length (iz (F.bH++ [x]))) (a:Md (fun k=>k=fb) w1 c) (hc:c.heap[fb]? =some (.cells (iT {F with bH:=F.bH++ [x]} {V with v9:=v} mc).toArray 89 (0,0))):bB c B fb mc {F with bH:=F.bH++ [x]} {V with v9:=v} :=by
 have hT:TF w [165] (fun k=>V.v9.ownBlock=some k):=TF.own h.o9 (by decide)
 have hcl:=hm.g3 hT h.cells (by decide)
 have hT2:TF w1 [91] (fun k=>k=fb):=TF.eq (cW hcl) (by decide)
 have hfl:∀ k,V.v9.ownBlock=some k→∀ cur z,w.heap[k]?≠some (.cells cur 71 z):=fc h.o9 (by decide)
 have i:∀ k,k=fb→∀ cur z,w1.heap[k]?≠some (.cells cur 71 z):=ez hcl (by decide)
 obtain ⟨f,hf,p⟩:=h.cm
 have hmt:=bX (hf.md hm (hT.no (bX hf) (by decide)))
 exact ⟨hc,bA j a (fun k hk hf=>cz j hcl (by decide) (hf ▸ hk)),cg (cg h.eK hm hT (by decide)) a hT2 (by decide),(h.al.md hm hfl).md a i,cg (cg h.dZ hm hT (by decide)) a hT2 (by decide),cg (cg h.dJ hm hT (by decide)) a hT2 (by decide),(h.nx.md hm hfl).md a i,⟨f,(hf.md hm (hT.no (bX hf) (by decide))).md a (hT2.no hmt (by decide)),p⟩,h.lo,h.fN⟩
theorem bB.xC {w w1 i:World} {B fb mc:Nat} {F:aG} {V:c5} {v:Value} {x:List Nat} {vx:Value} (h:bB w B fb mc F V) (hx:Tg w B 71 x.length vx (x.map az)) (hm:Md (fun k=>V.v10.ownBlock=some k) w w1) (j:World.ownsRow w1 B 54 1 v (F.aliases++ [x]).length ((V.sa++ [vx]))) (a:Md (fun k=>k=fb) w1 i) (hc:i.heap[fb]? =some (.cells (iT {F with aliases:=F.aliases++ [x]} {V with v10:=v,sa:=V.sa++ [vx]} mc).toArray 89 (0,0))):bB i B fb mc {F with aliases:=F.aliases++ [x]} {V with v10:=v,sa:=V.sa++ [vx]} :=by
 have hT:TF w [56] (fun k=>V.v10.ownBlock=some k):=TF.own h.eK (by decide)
 have hcl:=hm.g3 hT h.cells (by decide)
 have hT2:TF w1 [91] (fun k=>k=fb):=TF.eq (cW hcl) (by decide)
 have hfl:∀ k,V.v10.ownBlock=some k→∀ cur z,w.heap[k]?≠some (.cells cur 71 z):=fc h.eK (by decide)
 have c:∀ k,k=fb→∀ cur z,w1.heap[k]?≠some (.cells cur 71 z):=ez hcl (by decide)
 obtain ⟨f,hf,p⟩:=h.cm
 have hmt:=bX (hf.md hm (hT.no (bX hf) (by decide)))
 exact ⟨hc,cg (cg h.o9 hm hT (by decide)) a hT2 (by decide),bA j a (fun k hk hf=>cz j hcl (by decide) (hf ▸ hk)),((h.al.md hm hfl).md a c).snoc ((hx.md hm hfl).md a c),cg (cg h.dZ hm hT (by decide)) a hT2 (by decide),cg (cg h.dJ hm hT (by decide)) a hT2 (by decide),(h.nx.md hm hfl).md a c,⟨f,(hf.md hm (hT.no (bX hf) (by decide))).md a (hT2.no hmt (by decide)),p⟩,h.lo,h.fN⟩
theorem bB.xE {w w1 i:World} {B fb mc:Nat} {F:aG} {V:c5} {v:Value} {x:eI} {vx:Value} (h:bB w B fb mc F V) (hx:Tg w B 71 x.next.length vx (x.next.map az)) (hm:Md (fun k=>V.dd.ownBlock=some k) w w1) (j:World.ownsRow w1 B 155 7 v (F.rules++ [x]).length (eL ((F.rules++ [x]).zip (V.rn++ [vx])))) (a:Md (fun k=>k=fb) w1 i) (hc:i.heap[fb]? =some (.cells (iT {F with rules:=F.rules++ [x]} {V with dd:=v,rn:=V.rn++ [vx]} mc).toArray 89 (0,0))):bB i B fb mc {F with rules:=F.rules++ [x]} {V with dd:=v,rn:=V.rn++ [vx]} :=by
 have hT:TF w [157] (fun k=>V.dd.ownBlock=some k):=TF.own h.dJ (by decide)
 have hcl:=hm.g3 hT h.cells (by decide)
 have hT2:TF w1 [91] (fun k=>k=fb):=TF.eq (cW hcl) (by decide)
 have hfl:∀ k,V.dd.ownBlock=some k→∀ cur z,w.heap[k]?≠some (.cells cur 71 z):=fc h.dJ (by decide)
 have c:∀ k,k=fb→∀ cur z,w1.heap[k]?≠some (.cells cur 71 z):=ez hcl (by decide)
 obtain ⟨f,hf,p⟩:=h.cm
 have hmt:=bX (hf.md hm (hT.no (bX hf) (by decide)))
 exact ⟨hc,cg (cg h.o9 hm hT (by decide)) a hT2 (by decide),cg (cg h.eK hm hT (by decide)) a hT2 (by decide),(h.al.md hm hfl).md a c,cg (cg h.dZ hm hT (by decide)) a hT2 (by decide),bA j a (fun k hk hf=>cz j hcl (by decide) (hf ▸ hk)),(by rw [List.map_append]; exact ((h.nx.md hm hfl).md a c).snoc ((hx.md hm hfl).md a c)),⟨f,(hf.md hm (hT.no (bX hf) (by decide))).md a (hT2.no hmt (by decide)),p⟩,h.lo,h.fN⟩
theorem bg.own {w w':World} {B:Nat} {H:bd} {F:aG} {R:dF} {rows:List Rw} {ln:Nat} {seen:List Tx} {a e s n:Nat} {v:Value} {xs:List Value} (h:bg w B H F R rows ln seen) (i:World.ownsRow w a e s v n xs) (hm:Md (fun k=>v.ownBlock=some k) w w') (c:([e+2].contains 94 || [e+2].contains 107 || [e+2].contains 11 || [e+2].contains 5)=false):bg w' B H F R rows ln seen:=by
 have hT:TF w [e+2] (fun k=>v.ownBlock=some k):=TF.own i (by simp)
 obtain ⟨f,hf,_⟩:=h.sm
 obtain ⟨g,hg,_⟩:=h.tm
 exact h.md hm hT c (hT.no (bX hf) (by simp)) (hT.no (bX hg) (by simp))
theorem bg.nz {w w':World} {B:Nat} {H:bd} {F:aG} {R:dF} {rows:List Rw} {ln:Nat} {seen:List Tx} {cs:Array Value} {z:Nat×Nat} (h:bg w B H F R rows ln seen) (hc:w.heap[H.fb]? =some (.cells cs 89 z)) (hm:Md (fun k=>k=H.fb) w w'):bg w' B H F R rows ln seen:=by
 have hT:TF w [91] (fun k=>k=H.fb):=TF.eq (cW hc) (by decide)
 obtain ⟨f,hf,a⟩:=h.sm
 obtain ⟨g,hg,hg2⟩:=h.tm
 exact h.md hm hT (by decide) (hT.no (bX hf) (by decide)) (hT.no (bX hg) (by decide))
theorem Tg.qj {w:World} {b e n:Nat} {L:List Value} {z:Nat×Nat} (h:w.heap[b]? =some (.cells L.toArray e z)) (hn:n=L.length):Tg w b e n (.slice (some ⟨b,0,none⟩) n n) L:=⟨_,_,rfl,Nat.le_refl _,.inr ⟨b,_,_,rfl,Nat.le_refl _,h,fun j u hu=>by simpa using hu⟩⟩
theorem fO.k6 {F:aG} {q:Rw} {rest:List Rw} {seen:List Tx} (h:fO F (q::rest) seen):fO F rest seen:=⟨by have :=h.len; simp only [List.length_cons] at this; omega,by have :=h.sl; simp only [List.length_cons] at this; omega,fun q2 h2=>h.row q2 (List.mem_cons_of_mem _ h2),h.kd,h.al⟩
theorem EK {eof ln e:Nat} {F:aG} {rows:List Rw} {r:List Tx} (h:cH (r.getD 1 []) 256= .error e):gM eof F rows ln r= .error (ln,e):=by unfold gM; rw [h]
theorem my {eof ln n:Nat} {F:aG} {rows:List Rw} {r:List Tx} {e:Nat×Nat} (h:cH (r.getD 1 []) 256= .ok n) (h1:group [e8] hU eof n rows= .error e):gM eof F rows ln r= .error e:=by unfold gM; rw [h]; simp only; rw [h1]
theorem EL {eof ln n:Nat} {F:aG} {rows:List Rw} {r:List Tx} {q:List (Tx×Tx)×List Rw} (h:cH (r.getD 1 []) 256= .ok n) (h1:group [e8] hU eof n rows= .ok q):gM eof F rows ln r= .ok ({F with bH:=F.bH++q.1},q.2):=by unfold gM; rw [h]; simp only; rw [h1]
theorem qh {s:Tx} {most:Int} {n:Nat} (h:cH s most= .ok n):(n:Int)≤most:=by
 unfold cH at h
 split at h
 · cases h
 · rename_i h0; cases h; exact qd s most (Classical.not_not.1 h0)
theorem xn {eof ln:Nat} {F:aG} {hs:List Tx} {rows:List Rw} {r:List Tx} (h:eV∈hs∨bO∈hs):gh eof F hs rows ln r= .error (ln,113):=if_pos h
theorem xo {eof ln e:Nat} {F:aG} {hs:List Tx} {rows:List Rw} {r:List Tx} (h0:¬(eV∈hs∨bO∈hs)) (h:cH (r.getD 1 []) 1024= .error e):gh eof F hs rows ln r= .error (ln,e):=by unfold gh; rw [if_neg h0,h]
theorem mZ {eof ln n:Nat} {F:aG} {hs:List Tx} {rows:List Rw} {r:List Tx} {e:Nat×Nat} (h0:¬(eV∈hs∨bO∈hs)) (h:cH (r.getD 1 []) 1024= .ok n) (h1:group [eT] (jq F.kind) eof n rows= .error e):gh eof F hs rows ln r= .error e:=by unfold gh; rw [if_neg h0,h]; simp only; rw [h1]
theorem xp {eof ln n:Nat} {F:aG} {hs:List Tx} {rows:List Rw} {r:List Tx} {q:List (List Nat)×List Rw} (h0:¬(eV∈hs∨bO∈hs)) (h:cH (r.getD 1 []) 1024= .ok n) (h1:group [eT] (jq F.kind) eof n rows= .ok q):gh eof F hs rows ln r= .ok ({F with aliases:=F.aliases++q.1},q.2):=by unfold gh; rw [if_neg h0,h]; simp only; rw [h1]
theorem xk {kind ln:Nat} {r:List Tx} (h:r.length≠2):jq kind ln r= .error 111:=if_pos h
theorem rk {kind ln:Nat} {r:List Tx} (h:r.length=2):jq kind ln r=iU kind (r.getD 1 []):=if_neg (by omega)
theorem tD {kind:Nat} {s:Tx} (h:(dt kind s).2=0):(dt kind s).1.length≤64∧(dt kind s).1.Pairwise (· < ·):=by
 unfold dt at h ⊢
 split
 · simp
 · split
   · simp
   · split
     · simp
     · rename_i h3
       exact ⟨by have :=DS ((cV kind s).map (c8 kind)); rw [List.length_map] at this; exact Nat.le_trans this (by omega),uO _⟩
theorem EF {ln:Nat} {r:List Tx} (h:r.length≠3):hU ln r= .error 111:=if_pos h
theorem EG {ln e:Nat} {r:List Tx} (h:r.length=3) (h1:dR false (r.getD 1 [])= .error e):hU ln r= .error e:=by unfold hU; rw [if_neg (by omega),h1]
theorem EH {ln e:Nat} {r:List Tx} {a:Tx} (h:r.length=3) (h1:dR false (r.getD 1 [])= .ok a) (h2:dR true (r.getD 2 [])= .error e):hU ln r= .error e:=by unfold hU; rw [if_neg (by omega),h1]; simp only; rw [h2]
theorem EI {ln:Nat} {r:List Tx} {a b:Tx} (h:r.length=3) (h1:dR false (r.getD 1 [])= .ok a) (h2:dR true (r.getD 2 [])= .ok b):hU ln r= .ok (a,b):=by unfold hU; rw [if_neg (by omega),h1]; simp only; rw [h2]
theorem EM (B:Nat) (H:bd) (F:aG) (rows:List Rw) (ln:Nat) (seen:List Tx) (r:List Tx) (aF:Nat) (ag:Option Addr) (ah:Nat) (w:World) (A:St w B H F rows ln seen) (hT:Tg w aF 9 r.length (.slice ag r.length ah) (r.map str)) (hr:r.length=2) (hrl:∀ x∈r,x.length≤70000):
 cM Tryz.prog 63 (List.toArray [.pointer (some ⟨H.rb,0,none⟩),.slice ag r.length ah]) w (eH B H seen (gM H.eof F rows ln r) w) (eG B H (gM H.eof F rows ln r) w):=by
 obtain ⟨V,R,J,aj,ax⟩:=A
 have hTs:=hT.bN
 have br:(r.getD 1 []).length≤70000:=hrl _ (du (by omega))
 have hlo:=aj.lo
 have hbl:=ax.len
 refine e5 Tryz.func63 rfl Tryz.ntmps63 rfl ?_
 refine sq (fun a8 aN=>rg rfl (p (ao (.pointer (some ⟨H.rb,0,none⟩)) rfl) (p (ao (.slice ag r.length ah) rfl) (p (aH bZ rfl rfl (by omega) (ak.ok (hTs.2) (bG (by omega)))) (p (ld bQ rfl (bE.get (i:=1) hTs.2 (by omega))) (eP rfl (bz nf (nR H.rb ln (r.getD 1 []) 256 w aj.cy (by omega) (by omega)) rfl fun v10 w10 hR10=> ?_) (fun c w' s ac J=>by obtain ⟨e,he,h,h2⟩:=s; exact ⟨ln,e,EK he,h,Wk.mw h2⟩)))))))
 obtain ⟨n,hnx,rfl,ai⟩:=hR10
 have hnl:=qh hnx
 refine p mv (nl (tn (aN _ _ (au (lp (fun av ae wI=> ∃ (i:Nat) (xs:List (Tx×Tx)) (O:List Rw) (ab:Nat) (j:c5) (R':dF),(i≤n)∧(ed [e8] hU H.eof (group [e8] hU H.eof n rows) xs (n - i) O)∧(xs.length=i)∧(bB wI B H.fb H.mc {F with bH:=F.bH++xs} j)∧(bg wI B H F R' O ab seen)∧(fO {F with bH:=F.bH++xs} O seen)∧(cK B H w wI)∧(ae 0= .pointer (some ⟨H.rb,0,none⟩))∧(ae 10= .int .i64 (n:Nat))∧(ae 11= .int .i64 (i:Nat))∧(n - i=av)) _ ⟨0,[],rows,ln,V,R,(by omega),ed.start,rfl,((by rw [List.append_nil]; exact J.wk ai)),(aj.wk ai),((by rw [List.append_nil]; exact ax)),(Wk.mw ai),rfl,rfl,rfl,rfl⟩ ?_)))))
 rintro av ae wI ⟨i,xs,O,ab,j,R',hi,C,hxl,az,Y,U,hMw,a4,a5,a6,rfl⟩
 refine fx 0 a4 (fx 10 a5 (fx 11 a6 (sq (fun a9 aO=>rg rfl (p (lt rfl rfl) (nl (tn (aO _ _ (sq (fun ba aP=>cd rfl (fun a0=> ?_) (fun a0=> ?_)))))))))))
 refine aA (tn (aP _ _ (sq (fun bb aR=>au (sq (fun bc aS=>rg rfl (p (ao (.pointer (some ⟨H.rb,0,none⟩)) rfl) (e (kY (L:= [str e8]) fE rfl rfl rfl rfl fun aJ w14 hb14 aV aK=> ?_)))))))))
 have hE14:Wk wI w14:=aV.md
 have hMw14:=hMw.trans (Wk.mw hE14)
 refine eP rfl (bz oX (pU B H F R' O ab seen [e8] aJ 1 _ _ w14 (Y.wk hE14) (Tg.qj aK rfl) rfl (by decide) (fun q a3=>(U.row q a3).2.1)) rfl fun bt w15 aW=> ?_) (fun c w' s ac J=>by
  obtain ⟨h1,h2⟩:=s
  have hm:=hMw14.trans (cK.rb (Y.wk hE14) h2)
  rcases h1 with ⟨rfl,h3⟩ | ⟨M,I,rest,rfl,h4,h3⟩
  exact ⟨_,_,my hnx (C.ends (by omega)),h3,hm⟩
  exact ⟨_,_,my hnx (C.other (by omega) h4),h3,hm⟩)
 obtain ⟨M,I,rest,rfl,aa,⟨aI,hR2⟩,hT15,hM15⟩:=aW
 obtain ⟨bi,m8,rfl⟩:=hT15.slice
 have hF2:=(az.wk hE14).rb (Y.wk hE14) hM15
 have hMw2:=hMw14.trans (cK.rb (Y.wk hE14) hM15)
 have hrow:I≠[]∧I.length≤70000∧∀ x∈I,x.length≤70000:=U.row (M,I) (by simp)
 have hB2:=fO.k6 U
 have hT15s:=hT15.bN
 have hbl2:=U.len
 simp only [List.length_cons,List.length_append] at hbl2
 refine p aw (nl (tn (aS _ _ (sq (fun bf aT=>rg rfl (p (ao (.pointer (some ⟨H.rb,0,none⟩)) rfl) (p mv (p (bl dT rfl rfl) ?_))))))))
 refine p (bo rfl rfl) (eP rfl (bz dN (dQ H.rb M _ 111 w15 hR2.cy (by decide)) rfl fun v20 w20 aX=> ?_) (fun c w' s ac J=>⟨_,_,my hnx (C.bad (by omega) aa (EF (by have :=of_decide_eq_false s.2.1; omega))),s.1,by rw [s.2.2]; exact hMw2⟩))
 obtain ⟨rfl,a7,rfl⟩:=aX
 have aq:I.length=3:=by have :=of_decide_eq_true a7; omega
 have hl1:=hrow.2.2 _ (du (d:= []) (i:=1) (by omega))
 have hl2:=hrow.2.2 _ (du (d:= []) (i:=2) (by omega))
 refine nl (tn (aT _ _ (sq (fun bh aU=>rg rfl (p (ao (.pointer (some ⟨H.rb,0,none⟩)) rfl) (p mv (p (aH bZ rfl rfl (by omega) (ak.ok (hT15s.2) (bG (by omega)))) (p (ld bQ rfl (bE.get (i:=1) hT15s.2 (by omega))) ?_))))))))
 refine eP rfl (bz sh (uY H.rb M (I.getD 1 []) w20 hR2.cy (by omega)) rfl fun bu w25 aY=> ?_) (fun c w' s ac J=>by obtain ⟨e,he,h,h2⟩:=s; exact ⟨_,_,my hnx (C.bad (by omega) aa (EG aq he)),h,hMw2.trans (Wk.mw h2)⟩)
 obtain ⟨E,aE,rfl,hE25⟩:=aY
 have hF3:=hF2.wk hE25
 have hR3:=hR2.wk hE25
 have hT3:=hT15.wk hE25
 have hMw3:=hMw2.trans (Wk.mw hE25)
 have an:¬(j.v9.ownBlock=some H.rb):=cz hF3.o9 hR3.cells (by decide)
 have a1:¬(j.v9.ownBlock=some H.fb):=cz hF3.o9 hF3.cells (by decide)
 refine p aw (nl (tn (aU _ _ ?_)))
 have a:(fun w'=>Md (fun k=>j.v9.ownBlock=some k) w25 w') w25.drew:=(Md.refl _ _).drew
 refine da (fun w'=>Md (fun k=>j.v9.ownBlock=some k) w25 w') 24 rfl wide a (bj 0 rfl (by kernel_rfl) (fun _=>ao (.pointer (some ⟨H.rb,0,none⟩)) rfl) (fun _=>a) (bj 1 rfl (by kernel_rfl) (fun _=>nc rfl) (fun _=>a) (bj 2 rfl (by kernel_rfl) (fun _=>fa dI rfl) (fun _=>a) (fq 3 rfl (by kernel_rfl) (fun w' A=>ld dx rfl (Md.ay A ((aQ hR3.cells).trans rfl) an)) a (bj 4 rfl (by kernel_rfl) (fun _=>ao (.pointer (some ⟨H.rb,0,none⟩)) rfl) (fun _=>a) (bj 5 rfl (by kernel_rfl) (fun _=>nc rfl) (fun _=>a) (bj 6 rfl (by kernel_rfl) (fun _=>fa dI rfl) (fun _=>a) ?_)))))))
 refine fq 7 rfl (by kernel_rfl) (fun w' A=>ld dx rfl (Md.ay A ((aQ hR3.cells).trans rfl) an)) a (bj 8 rfl (by kernel_rfl) (fun _=>nc rfl) (fun _=>a) (bj 9 rfl (by kernel_rfl) (fun _=>fa dz rfl) (fun _=>a) (bj 10 rfl (by kernel_rfl) (fun _=>fa nG rfl) (fun _=>a) (fq 11 rfl (by kernel_rfl) (fun w' A=>ld ri rfl (Md.ay A ((aQ hF3.cells).trans rfl) a1)) a (bj 12 rfl (by kernel_rfl) (fun _=>mv) (fun _=>a) (bj 13 rfl (by kernel_rfl) (fun _=>ao (.pointer (some ⟨H.rb,0,none⟩)) rfl) (fun _=>a) (bj 14 rfl (by kernel_rfl) (fun _=>mv) (fun _=>a) ?_)))))))
 refine bj 15 rfl (by kernel_rfl) (fun _=>aH bZ rfl rfl (by omega) (ak.ok (hT3.bN.2) (bG (by omega)))) (fun _=>a) (fq 16 rfl (by kernel_rfl) (fun w' A=>ld bQ rfl (bE.get (i:=2) (hT3.md A (fc hF3.o9 (by decide))).bN.2 (by omega))) a (uk 17 rfl (by kernel_rfl) rfl (bz rJ (uW H.rb M (I.getD 2 []) w25.drew (Md.ay a hR3.cy an) (by omega)) rfl fun bv w43 aZ=> ?_) (fun c w' s ac J=>by obtain ⟨e,he,h,h2⟩:=s; exact ⟨_,_,my hnx (C.bad (by omega) aa (EH aq aE he)),h,hMw3.trans (Wk.mw (eW h2))⟩)))
 obtain ⟨G,a2,rfl,hE43⟩:=aZ
 have hE43:=eW hE43
 have am:(fun w'=>Md (fun k=>j.v9.ownBlock=some k) w25 w') w43:=Md.mono hE43 (fun _ _ h=>h.elim)
 refine ⟨am,?_⟩
 refine bj 18 rfl (by kernel_rfl) (fun _=>bT (ps:= [(0,str E),(1,str G)]) (L:= [str E,str G]) FF rfl (rfl)) (fun _=>am) (fM 19 rfl (by kernel_rfl) (kp n5 rfl rfl rfl fun bk w45 bm aB aL=> ?_))
 have hE45:=hE43.trans aB.md
 have hF4:=hF3.wk hE45
 have hR4:=hR3.wk hE45
 have aC:(fun w'=>Md (fun k=>j.v9.ownBlock=some k) w25 w') w45:=am.trans' aB.md (fun _ _ h=>h.elim)
 refine ⟨aC,?_⟩
 refine fM 20 rfl (by kernel_rfl) (ap n5 (hF4.o9) rfl (by have :=(Array.getElem?_eq_some_iff.1 hR4.cells).1; omega) rfl (ak.ea aL) (rfl) (rfl) (by simp only [List.length_append]; omega) (by simp only [List.length_append]; omega) fun ar w46 aD hM46 bs bq=> ?_)
 have hMw5:=(hMw3.trans (Wk.mw hE45)).trans (Mw.of hM46 (TF.own hF4.o9 (by decide)) (fun k hk=>(cU hF4.o9 hk).1))
 have hR5:=bg.own hR4 hF4.o9 hM46 (by decide)
 have hc5:=hM46.au hF4.cells (cz hF4.o9 hF4.cells (by decide))
 have ho46x:World.ownsRow w46 B 163 2 ar ((F.bH++xs)++ [(E,G)]).length (iz ((F.bH++xs)++ [(E,G)])):=by rw [show iz ((F.bH++xs)++ [(E,G)])=iz (F.bH++xs)++ [str E,str G] from by simp [iz],List.length_append]; exact aD
 have Z:(fun w'=>Md (fun k=>j.v9.ownBlock=some k) w25 w') w46:=aC.trans' hM46 (fun _ _ h=>h)
 refine ⟨Z,?_⟩
 refine bj 21 rfl (by kernel_rfl) (fun _=>nc rfl) (fun _=>Z) (bj 22 rfl (by kernel_rfl) (fun _=>fa dz rfl) (fun _=>Z) (bj 23 rfl (by kernel_rfl) (fun _=>fa nG rfl) (fun _=>Z) (bJ 24 rfl (by kernel_rfl) (by kernel_rfl) (c4 sE rfl rfl (v:=ar) (dA aD) hc5 (by show _ < 14; omega) fun w9 hM9 aM=> ?_))))
 refine c9 (by kernel_rfl) ?_
 exact bn (tn (aR _ _ (rg rfl (p (ad rfl rfl (bp (by omega))) (p mv (nl (tn (⟨_,by omega,i+1,xs++ [(E,G)],rest,M,{j with v9:=ar},aI,(by omega),((by rw [show n - (i+1)=n - i - 1 by omega]; exact C.step (by omega) aa (EI aq aE a2))),((by rw [List.length_append,hxl]; rfl)),((by rw [← List.append_assoc]; exact bB.xF (x:=(E,G)) hF4 hM46 ho46x hM9 aM)),(bg.nz hR5 hc5 hM9),(⟨by simp only [List.length_append,List.length_singleton]; omega,hB2.sl,hB2.row,hB2.kd,hB2.al⟩),(hMw5.trans (Mw.of hM9 (TF.eq (cW hc5) (by decide)) (fun k hk=>hk ▸ hF4.lo.1))),rfl,rfl,rfl,rfl⟩))))))))
 refine ext (te _ (te _ (be (eR ?_))))
 refine f0 rfl ?_
 rw [show n - i=0 by omega] at C
 exact ⟨rfl,_,O,ab,EL hnx C.done,⟨j,R',az,Y.congr rfl (fun _=>rfl),U⟩,hMw⟩
theorem xm (B:Nat) (H:bd) (F:aG) (rows:List Rw) (ln:Nat) (seen:List Tx) (r:List Tx) (aR:Nat) (ar:Option Addr) (av:Nat) (w:World) (j:St w B H F rows ln seen) (hT:Tg w aR 9 r.length (.slice ar r.length av) (r.map str)) (hr:r.length=2) (hrl:∀ x∈r,x.length≤70000):
 cM Tryz.prog 64 (List.toArray [.pointer (some ⟨H.rb,0,none⟩),.slice ar r.length av]) w (eH B H seen (gh H.eof F seen rows ln r) w) (eG B H (gh H.eof F seen rows ln r) w):=by
 obtain ⟨V,R,U,J,ah⟩:=j
 have hTs:=hT.bN
 have bW:(r.getD 1 []).length≤70000:=hrl _ (du (by omega))
 have hlo:=J.lo
 have hbl:=ah.len
 obtain ⟨bY,aN,aO⟩:=J.sm
 have hcp:=List.count_le_length (a:=eV) (l:=seen)
 have hcs:=List.count_le_length (a:=bO) (l:=seen)
 have hsl:=ah.sl
 refine e5 Tryz.func64 rfl Tryz.ntmps64 rfl ?_
 refine sq (fun bC aY=> ?_)
 have s:(fun w'=>Wk w w') w.drew:=(Md.refl _ _).drew
 refine bF (fun w'=>Wk w w') rfl wide s (hp 0 rfl (by kernel_rfl) (fun _ _=>ao (.pointer (some ⟨H.rb,0,none⟩)) rfl) s (hp 1 rfl (by kernel_rfl) (fun _ _=>ao (.pointer (some ⟨H.rb,0,none⟩)) rfl) s (hp 2 rfl (by kernel_rfl) (fun _ _=>nc rfl) s (hp 3 rfl (by kernel_rfl) (fun _ _=>fa lj rfl) s (hp 4 rfl (by kernel_rfl) (fun w' j=>ld kV rfl (Wk.ay j ((aQ J.cells).trans rfl))) s (hp 5 rfl (by kernel_rfl) (fun w' j=>iX j7 jj ei (bf.md (aN) j id) rfl rfl (⟨_,rfl⟩) (aO eV)) s (hp 6 rfl (by kernel_rfl) (fun _ _=>ao (.pointer (some ⟨H.rb,0,none⟩)) rfl) s ?_)))))))
 refine hp 7 rfl (by kernel_rfl) (fun _ _=>nc rfl) s (hp 8 rfl (by kernel_rfl) (fun _ _=>fa lj rfl) s (hp 9 rfl (by kernel_rfl) (fun w' j=>ld kV rfl (Wk.ay j ((aQ J.cells).trans rfl))) s (hp 10 rfl (by kernel_rfl) (fun w' j=>iX j7 jj ei (bf.md (aN) j id) rfl rfl (⟨_,rfl⟩) (aO bO)) s (hp 11 rfl (by kernel_rfl) (fun _ _=>a8 ((seen.count eV+seen.count bO:Nat):Int) rfl rfl (aI (by omega) (by omega))) s (hp 12 rfl (by kernel_rfl) (fun _ _=>bo rfl rfl) s ?_)))))
 refine lk 13 rfl (by kernel_rfl) rfl (bz dN (dQ H.rb ln _ 113 w.drew (Wk.ay s J.cy) (by decide)) rfl fun v20 w20 bb=> ?_) (fun c w' A an U=>⟨ln,113,xn (Classical.byContradiction fun h2=>by
  have h1:=List.count_eq_zero.2 (fun h=>h2 (Or.inl h))
  have h3:=List.count_eq_zero.2 (fun h=>h2 (Or.inr h))
  exact of_decide_eq_false A.2.1 (by omega)),A.1,by rw [A.2.2]; exact Wk.mw s⟩)
 obtain ⟨rfl,bx,aP⟩:=bb
 have ai:Wk w w20:=by rw [aP]; exact (Md.refl _ _).drew
 have Z:¬(eV∈seen∨bO∈seen):=by
  have h0:=of_decide_eq_true bx
  rintro (h | h)
  have :=List.count_pos_iff.2 h; omega
  have :=List.count_pos_iff.2 h; omega
 have hR0:=J.wk ai
 have hT0s:=(hT.wk ai).bN
 have bm:(fun w'=>Wk w w') w20:=by rw [aP]; exact s
 refine ⟨bm,?_⟩
 refine hn (by kernel_rfl) (tn (aY _ _ (sq (fun bD aZ=>rg rfl (p (ao (.pointer (some ⟨H.rb,0,none⟩)) rfl) (p (ao (.slice ar r.length av) rfl) (p (aH bZ rfl rfl (by omega) (ak.ok (hT0s.2) (bG (by omega)))) (p (ld bQ rfl (bE.get (i:=1) hT0s.2 (by omega))) ?_))))))))
 refine eP rfl (bz nf (nR H.rb ln (r.getD 1 []) 1024 w20 hR0.cy (by omega) (by omega)) rfl fun b1 w25 bc=> ?_) (fun c w' A an U=>by obtain ⟨e,he,h,h2⟩:=A; exact ⟨ln,e,xo Z he,h,Wk.mw (ai.trans h2)⟩)
 obtain ⟨n,hnx,rfl,hE25⟩:=bc
 have hnl:=qh hnx
 have hE25:=ai.trans hE25
 refine p mv (nl (tn (aZ _ _ (au (lp (fun aD aq wI=> ∃ (i:Nat) (xs:List (List Nat)) (aa:List Rw) (am:Nat) (E:c5) (R':dF),(i≤n)∧(ed [eT] (jq F.kind) H.eof (group [eT] (jq F.kind) H.eof n rows) xs (n - i) aa)∧(xs.length=i)∧(bB wI B H.fb H.mc {F with aliases:=F.aliases++xs} E)∧(bg wI B H F R' aa am seen)∧(fO {F with aliases:=F.aliases++xs} aa seen)∧(cK B H w wI)∧(aq 0= .pointer (some ⟨H.rb,0,none⟩))∧(aq 25= .int .i64 (n:Nat))∧(aq 26= .int .i64 (i:Nat))∧(n - i=aD)) _ ⟨0,[],rows,ln,V,R,(by omega),ed.start,rfl,((by rw [List.append_nil]; exact U.wk hE25)),(J.wk hE25),((by rw [List.append_nil]; exact ah)),(Wk.mw hE25),rfl,rfl,rfl,rfl⟩ ?_)))))
 rintro aD aq wI ⟨i,xs,aa,am,E,R',hi,M,hxl,aF,ac,O,hMw,bu,bv,bw,rfl⟩
 refine fx 0 bu (fx 25 bv (fx 26 bw (sq (fun bH a0=>rg rfl (p (lt rfl rfl) (nl (tn (a0 _ _ (sq (fun bI a1=>cd rfl (fun bq=> ?_) (fun bq=> ?_)))))))))))
 refine aA (tn (a1 _ _ (sq (fun bK a2=>au (sq (fun bL a3=>rg rfl (p (ao (.pointer (some ⟨H.rb,0,none⟩)) rfl) (e (kY (L:= [str eT]) fE rfl rfl rfl rfl fun aT w14 hb14 a7 aU=> ?_)))))))))
 have hE14:Wk wI w14:=a7.md
 have hMw14:=hMw.trans (Wk.mw hE14)
 refine eP rfl (bz oX (pU B H F R' aa am seen [eT] aT 1 _ _ w14 (ac.wk hE14) (Tg.qj aU rfl) rfl (by decide) (fun q bt=>(O.row q bt).2.1)) rfl fun b0 w15 ba=> ?_) (fun c w' A an U=>by
  obtain ⟨h1,h2⟩:=A
  have hm:=hMw14.trans (cK.rb (ac.wk hE14) h2)
  rcases h1 with ⟨rfl,h3⟩ | ⟨ae,I,rest,rfl,h4,h3⟩
  exact ⟨_,_,mZ Z hnx (M.ends (by omega)),h3,hm⟩
  exact ⟨_,_,mZ Z hnx (M.other (by omega) h4),h3,hm⟩)
 obtain ⟨ae,I,rest,rfl,az,⟨aS,hR2⟩,hT15,hM15⟩:=ba
 obtain ⟨bS,m8,rfl⟩:=hT15.slice
 have hF2:=(aF.wk hE14).rb (ac.wk hE14) hM15
 have hMw2:=hMw14.trans (cK.rb (ac.wk hE14) hM15)
 have hrow:I≠[]∧I.length≤70000∧∀ x∈I,x.length≤70000:=O.row (ae,I) (by simp)
 have hB2:=fO.k6 O
 have hT15s:=hT15.bN
 have hbl2:=O.len
 simp only [List.length_cons,List.length_append] at hbl2
 refine p aw (nl (tn (a3 _ _ (sq (fun bM a4=>rg rfl (p (ao (.pointer (some ⟨H.rb,0,none⟩)) rfl) (p mv (p (bl dT rfl rfl) ?_))))))))
 refine p (bo rfl rfl) (eP rfl (bz dN (dQ H.rb ae _ 111 w15 hR2.cy (by decide)) rfl fun b2 w35 bh=> ?_) (fun c w' A an U=>⟨_,_,mZ Z hnx (M.bad (by omega) az (xk (by have :=of_decide_eq_false A.2.1; omega))),A.1,by rw [A.2.2]; exact hMw2⟩))
 obtain ⟨rfl,bA,rfl⟩:=bh
 have aM:I.length=2:=by have :=of_decide_eq_true bA; omega
 have hl1:=hrow.2.2 _ (du (d:= []) (i:=1) (by omega))
 refine nl (tn (a4 _ _ (sq (fun bP a5=> ?_))))
 have G:(fun w'=>Wk w35 w') w35.drew:=(Md.refl _ _).drew
 refine bF (fun w'=>Wk w35 w') rfl wide G (hp 0 rfl (by kernel_rfl) (fun _ _=>ao (.pointer (some ⟨H.rb,0,none⟩)) rfl) G (hp 1 rfl (by kernel_rfl) (fun _ _=>nc rfl) G (hp 2 rfl (by kernel_rfl) (fun _ _=>fa dI rfl) G (hp 3 rfl (by kernel_rfl) (fun w' j=>ld dx rfl (Wk.ay j ((aQ hR2.cells).trans rfl))) G (hp 4 rfl (by kernel_rfl) (fun _ _=>nc rfl) G (hp 5 rfl (by kernel_rfl) (fun _ _=>fa dz rfl) G (hp 6 rfl (by kernel_rfl) (fun _ _=>fa lg rfl) G ?_)))))))
 refine hp 7 rfl (by kernel_rfl) (fun w' j=>ld eu rfl (Wk.ay j ((aQ hF2.cells).trans rfl))) G (hp 8 rfl (by kernel_rfl) (fun _ _=>mv) G (hp 9 rfl (by kernel_rfl) (fun _ _=>aH bZ rfl rfl (by omega) (ak.ok (hT15s.2) (bG (by omega)))) G (hp 10 rfl (by kernel_rfl) (fun w' j=>ld bQ rfl (Wk.ay j (bE.get (i:=1) hT15s.2 (by omega)))) G (he 11 rfl (by kernel_rfl) (cl rK (tH F.kind (I.getD 1 []) _ ah.kd (by omega)) rfl fun b3 w48 bi=> ?_)))))
 obtain ⟨⟨ag,rfl,ax⟩,hE48⟩:=bi
 have hE48:=eW hE48
 have hF3:=hF2.wk hE48
 have hR3:=hR2.wk hE48
 have hMw3:=hMw2.trans (Wk.mw hE48)
 have aK:¬(E.v10.ownBlock=some H.rb):=cz hF3.eK hR3.cells (by decide)
 have br:¬(E.v10.ownBlock=some H.fb):=cz hF3.eK hF3.cells (by decide)
 have aX:B≤w35.heap.size:=by have :=(Array.getElem?_eq_some_iff.1 hR2.cells).1; omega
 have Y:(fun w'=>Wk w35 w') w48:=hE48
 refine ⟨Y,?_⟩
 refine hp 12 rfl (by kernel_rfl) (fun _ _=>mv) Y (hp 13 rfl (by kernel_rfl) (fun _ _=>xt rfl rfl) Y (hp 14 rfl (by kernel_rfl) (fun _ _=>xt rfl rfl) Y (hp 15 rfl (by kernel_rfl) (fun _ _=>aw) Y (hp 16 rfl (by kernel_rfl) (fun _ _=>aw) Y (hn (by kernel_rfl) (tn (a5 _ _ (sq (fun bR a6=> ?_)))))))))
 refine rg rfl (p (ao (.pointer (some ⟨H.rb,0,none⟩)) rfl) (p mv (eP rfl (bz iO (iY H.rb ae ((dt F.kind (I.getD 1 [])).2:Nat) w48 hR3.cy) rfl fun b4 w53 bk=> ?_) (fun c w' A an U=>⟨_,_,mZ Z hnx (M.bad (by omega) az (by rw [rk aM]; exact tE (by have :=A.2.1; omega))),A.1,by rw [A.2.2]; exact hMw3⟩))))
 obtain ⟨rfl,aB,rfl⟩:=bk
 have aB:(dt F.kind (I.getD 1 [])).2=0:=by omega
 have hfo:=tD aB
 refine nl (tn (a6 _ _ ?_))
 have C:(fun w'=>Md (fun k=>E.v10.ownBlock=some k) w53 w') w53.drew:=(Md.refl _ _).drew
 refine da (fun w'=>Md (fun k=>E.v10.ownBlock=some k) w53 w') 18 rfl wide C (bj 0 rfl (by kernel_rfl) (fun _=>ao (.pointer (some ⟨H.rb,0,none⟩)) rfl) (fun _=>C) (bj 1 rfl (by kernel_rfl) (fun _=>nc rfl) (fun _=>C) (bj 2 rfl (by kernel_rfl) (fun _=>fa dI rfl) (fun _=>C) (fq 3 rfl (by kernel_rfl) (fun w' j=>ld dx rfl (Md.ay j ((aQ hR3.cells).trans rfl) aK)) C (bj 4 rfl (by kernel_rfl) (fun _=>ao (.pointer (some ⟨H.rb,0,none⟩)) rfl) (fun _=>C) (bj 5 rfl (by kernel_rfl) (fun _=>nc rfl) (fun _=>C) (bj 6 rfl (by kernel_rfl) (fun _=>fa dI rfl) (fun _=>C) ?_)))))))
 refine fq 7 rfl (by kernel_rfl) (fun w' j=>ld dx rfl (Md.ay j ((aQ hR3.cells).trans rfl) aK)) C (bj 8 rfl (by kernel_rfl) (fun _=>nc rfl) (fun _=>C) (bj 9 rfl (by kernel_rfl) (fun _=>fa dz rfl) (fun _=>C) (bj 10 rfl (by kernel_rfl) (fun _=>fa jx rfl) (fun _=>C) (fq 11 rfl (by kernel_rfl) (fun w' j=>ld kj rfl (Md.ay j ((aQ hF3.cells).trans rfl) br)) C (bj 12 rfl (by kernel_rfl) (fun _=>mv) (fun _=>C) (fM 13 rfl (by kernel_rfl) (gj n6 rfl (dA ax) fun bT w67 bU a9 aV=> ?_)))))))
 have hE67:=eW a9.md
 have hF4:=hF3.wk hE67
 have hR4:=hR3.wk hE67
 have hTx:=(Tg.fW (aE ax hE67)).mono aX
 have aJ:(fun w'=>Md (fun k=>E.v10.ownBlock=some k) w53 w') w67:=Md.mono hE67 (fun _ _ h=>h.elim)
 refine ⟨aJ,?_⟩
 refine fM 14 rfl (by kernel_rfl) (ap n6 (hF4.eK) rfl (by have :=(Array.getElem?_eq_some_iff.1 hR4.cells).1; omega) rfl (ak.ea aV) (rfl) (by show List.all [ag] Value.oneCell'=true; simp only [List.all_cons,List.all_nil,dA ax,Bool.and_self]) (by simp only [List.length_append]; omega) (by simp only [List.length_append]; omega) fun aC w68 aL ab bX bV=> ?_)
 have hMw5:=(hMw3.trans (Wk.mw hE67)).trans (Mw.of ab (TF.own hF4.eK (by decide)) (fun k hk=>(cU hF4.eK hk).1))
 have hR5:=bg.own hR4 hF4.eK ab (by decide)
 have hc5:=ab.au hF4.cells (cz hF4.eK hF4.cells (by decide))
 have bs:World.ownsRow w68 B 54 1 aC ((F.aliases++xs)++ [(dt F.kind (I.getD 1 [])).1]).length (E.sa++ [ag]):=by rw [List.length_append]; exact aL
 have aj:(fun w'=>Md (fun k=>E.v10.ownBlock=some k) w53 w') w68:=aJ.trans' ab (fun _ _ h=>h)
 refine ⟨aj,?_⟩
 refine bj 15 rfl (by kernel_rfl) (fun _=>nc rfl) (fun _=>aj) (bj 16 rfl (by kernel_rfl) (fun _=>fa dz rfl) (fun _=>aj) (bj 17 rfl (by kernel_rfl) (fun _=>fa jx rfl) (fun _=>aj) (bJ 18 rfl (by kernel_rfl) (by kernel_rfl) (c4 sF rfl rfl (v:=aC) (dA aL) hc5 (by show _ < 14; omega) fun w9 hM9 aW=> ?_))))
 refine c9 (by kernel_rfl) ?_
 exact bn (tn (a2 _ _ (rg rfl (p (ad rfl rfl (bp (by omega))) (p mv (nl (tn (⟨_,by omega,i+1,xs++ [(dt F.kind (I.getD 1 [])).1],rest,ae,{E with v10:=aC,sa:=E.sa++ [ag]},aS,(by omega),((by rw [show n - (i+1)=n - i - 1 by omega]; exact M.step (by omega) az (by rw [rk aM]; exact tG aB))),((by rw [List.length_append,hxl]; rfl)),((by rw [← List.append_assoc]; exact bB.xC (x:=(dt F.kind (I.getD 1 [])).1) (vx:=ag) hF4 hTx ab bs hM9 aW)),(bg.nz hR5 hc5 hM9),(⟨by simp only [List.length_append,List.length_singleton]; omega,hB2.sl,hB2.row,hB2.kd,(by intro l hl; rw [← List.append_assoc] at hl; rcases List.mem_append.1 hl with hl | hl; exact O.al l hl; rw [List.mem_singleton.1 hl]; exact hfo)⟩),(hMw5.trans (Mw.of hM9 (TF.eq (cW hc5) (by decide)) (fun k hk=>hk ▸ hF4.lo.1))),rfl,rfl,rfl,rfl⟩))))))))
 refine ext (te _ (te _ (be (eR ?_))))
 refine f0 rfl ?_
 rw [show n - i=0 by omega] at M
 exact ⟨rfl,_,aa,am,xp Z hnx M.done,⟨E,R',aF,ac.congr rfl (fun _=>rfl),O⟩,hMw⟩
end Go.Hb.jl
end
section
set_option maxRecDepth 20000
set_option maxHeartbeats 1000000
namespace Go.Hb.iG
open Go.Proofs
open Go.Hb.eM Go.Hb.fg Go.Hb.jk Go.Hb.fF Go.Hb.jl
def Nx (F:aG):Prop :=(∀ l∈F.aliases,l.length≤64)∧∀ q∈F.rules,q.next.length≤64
theorem tL {α:Type} {hd:List Tx} {rd:Nat→List Tx→Except Nat α} {eof:Nat} :∀ (n:Nat) (rows:List Rw) (r:List α×List Rw),group hd rd eof n rows= .ok r→∀ x∈r.1,∃ ln row,rd ln row= .ok x:=by
 intro n
 induction n with
 | zero=>intro rows r h; simp only [group,Except.ok.injEq] at h; subst h; intro x hx; cases hx
 | succ n ih=>
   intro rows r h
   cases rows with
   | nil=>simp [group] at h
   | cons q rows=>
     obtain ⟨ln,row⟩:=q
     simp only [group] at h
     split at h
     · cases h
     · cases hr:rd ln row with
       | error e=>rw [hr] at h; cases h
       | ok y=>
         rw [hr] at h
         simp only at h
         cases hg:group hd rd eof n rows with
         | error e=>rw [hg] at h; cases h
         | ok a=>
           rw [hg] at h
           simp only [Except.ok.injEq] at h
           subst h
           intro x hx
           rcases List.mem_cons.1 hx with hx | hx
           · exact ⟨ln,row,by rw [hx]; exact hr⟩
           · exact ih rows a hg x hx
theorem tF {kind:Nat} {s:Tx} {l:List Nat} (h:iU kind s= .ok l):l.length≤64:=by
 unfold iU at h
 split at h
 · cases h
 · rename_i h0
   cases h
   exact (tD (Classical.not_not.1 h0)).1
theorem xl {kind ln:Nat} {row:List Tx} {l:List Nat} (h:jq kind ln row= .ok l):l.length≤64:=by
 unfold jq at h
 split at h
 · cases h
 · exact tF h
theorem tj {kind:Nat} {al:List (List Nat)} {s:Tx} {l:List Nat} (hal:∀ l∈al,l.length≤64) (h:eh kind al s= .ok l):l.length≤64:=by
 unfold eh at h
 split at h
 · exact tF h
 · split at h
   · cases h
   · split at h
     · cases h
     · cases h
       rename_i n _ _
       rw [List.getD_eq_getElem?_getD]
       cases hg:al[n - 1]? with
       | none=>simp
       | some x=>exact hal x (List.mem_of_getElem? hg)
theorem E1 {kind ln:Nat} {al:List (List Nat)} {c:cX} {row:List Tx} {q:eI} (hal:∀ l∈al,l.length≤64) (h:gN kind al c ln row= .ok q):q.next.length≤64:=by
 unfold gN at h
 split at h
 · cases h
 · split at h
   · cases h
   · split at h
     · cases h
     · split at h
       · cases h
       · rename_i nx hnx
         split at h
         · cases h
         · cases h
           unfold iZ at hnx
           split at hnx
           · split at hnx
             · cases hnx
             · exact tj hal hnx
           · cases hnx; simp
theorem tQ {eof ln:Nat} {F F':aG} {hs:List Tx} {rows c:List Rw} {row:List Tx} (h:Nx F) (hx:bh eof F hs rows ln row= .ok (F',c)):Nx F':=by
 unfold bh at hx
 split at hx
 · unfold fZ at hx
   split at hx
   · cases hx
   · cases hx; exact h
 · split at hx
   · unfold gJ at hx
     split at hx
     · cases hx
     · split at hx
       · cases hx
       · cases hx; exact h
   · split at hx
     · unfold jH at hx
       split at hx
       · cases hx
       · cases hx; exact h
     · split at hx
       · unfold jJ at hx
         split at hx
         · cases hx
         · cases hx; exact h
       · split at hx
         · unfold gK at hx
           split at hx
           · cases hx
           · split at hx
             · cases hx
             · cases hx; exact h
         · split at hx
           · unfold gM at hx
             split at hx
             · cases hx
             · split at hx
               · cases hx
               · cases hx; exact h
           · split at hx
             · unfold gh at hx
               split at hx
               · cases hx
               · split at hx
                 · cases hx
                 · split at hx
                   · cases hx
                   · rename_i r hg
                     cases hx
                     refine ⟨fun l hl=> ?_,h.2⟩
                     rcases List.mem_append.1 hl with hl | hl
                     · exact h.1 l hl
                     · obtain ⟨_,_,h2⟩:=tL _ _ _ hg l hl
                       exact xl h2
             · unfold eN at hx
               split at hx
               · cases hx
               · split at hx
                 · cases hx
                 · split at hx
                   · cases hx
                   · split at hx
                     · cases hx
                     · split at hx
                       · cases hx
                       · rename_i r hg
                         cases hx
                         refine ⟨h.1,fun q a=> ?_⟩
                         rcases List.mem_append.1 a with a | a
                         · exact h.2 q a
                         · obtain ⟨_,_,h2⟩:=tL _ _ _ hg q a
                           exact E1 h.1 h2
theorem Cr {eof ln:Nat} {F F':aG} {hs:List Tx} {rows a:List Rw} {row:List Tx} (h0:row.getD 0 []∉dE) (hx:bh eof F hs rows ln row= .ok (F',a)):F'.sp=F.sp:=by
 unfold bh at hx
 rw [if_neg h0] at hx
 unfold gJ jH jJ gK gM gh eN at hx
 repeat' split at hx
 all_goals first
  | (cases hx; done)
  | (cases hx; rfl)
theorem tR {eof ln:Nat} {F F':aG} {seen:List Tx} {rows p:List Rw} {row:List Tx} (h:fj F seen) (hx:bh eof F seen rows ln row= .ok (F',p)):fj F' (seen++ [row.getD 0 []]):=by
 intro k hk c
 rw [List.mem_append,List.mem_singleton] at c
 have i:k∉seen:=fun h=>c (.inl h)
 have j:k≠row.getD 0 []:=fun h=>c (.inr h)
 by_cases h0:row.getD 0 []∈dE
 · unfold bh at hx
   rw [if_pos h0] at hx
   unfold fZ at hx
   split at hx
   · cases hx
   · cases hx
     show (F.sp.set (dE.idxOf (row.getD 0 [])) _).getD (dE.idxOf k) 0=0
     rw [List.getD_eq_getElem?_getD,List.getElem?_set,if_neg,← List.getD_eq_getElem?_getD]
     · exact h k hk i
     · intro he
       have hg:∀ a∈dE,dE.getD (dE.idxOf a) []=a:=by decide
       have h1:=hg _ h0
       have h2:=hg _ hk
       rw [he] at h1
       exact j (h2.symm.trans h1)
 · rw [Cr h0 hx]; exact h k hk i
end Go.Hb.iG
end
section
set_option maxRecDepth 20000
set_option maxHeartbeats 1000000
namespace Go.Hb.j9
open Go.Hb.cJ
open Go.Proofs
open Go.Hb.eM Go.Hb.fg Go.Hb.jk Go.Hb.fF Go.Hb.jl Go.Hb.ib Go.Hb.gX Go.Hb.ke Go.Hb.fH Go.Hb.kP Go.Hb.lP Go.Hb.gx Go.Hb.fQ
structure iH (w:World) (B fb:Nat) (mc:Nat) (F:aG) (V:c5):Prop where
 cells:w.heap[fb]? =some (.cells (iT F V mc).toArray 89 (0,0))
 o9:World.ownsRow w B 163 2 V.v9 F.bH.length (iz F.bH)
 eK:World.ownsRow w B 54 1 V.v10 F.aliases.length V.sa
 al:bM w B 71 V.sa F.aliases
 dZ:World.ownsRow w B 157 5 V.v11 F.a6.length (g6 F.a6)
 dJ:World.ownsRow w B 155 7 V.dd F.rules.length (eL (F.rules.zip V.rn))
 nx:bM w B 71 V.rn (F.rules.map (·.next))
 lo:B≤fb∧B≤mc
 fN:F.sp.length=5
theorem iH.md {G:Nat→Prop} {w w':World} {B fb mc:Nat} {F:aG} {V:c5} (h:iH w B fb mc F V) (hm:Md G w w') {L:List Nat} (hT:TF w L G) (a:(L.contains 91 || L.contains 165 || L.contains 56 || L.contains 73 || L.contains 159 || L.contains 157)=false):iH w' B fb mc F V:=by
 simp only [Bool.or_eq_false_iff] at a
 obtain ⟨⟨⟨⟨⟨h1,h2⟩,h3⟩,h4⟩,h5⟩,h6⟩:=a
 have hfl:∀ k,G k→∀ cur z,w.heap[k]?≠some (.cells cur 71 z):=fun k hk cur z hg=>hT.no (cW hg) h4 hk
 exact ⟨hm.g3 hT h.cells h1,cg h.o9 hm hT h2,cg h.eK hm hT h3,h.al.md hm hfl,cg h.dZ hm hT h5,cg h.dJ hm hT h6,h.nx.md hm hfl,h.lo,h.fN⟩
theorem iH.wk {w w':World} {B fb mc:Nat} {F:aG} {V:c5} (h:iH w B fb mc F V) (hm:Wk w w'):iH w' B fb mc F V:=h.md (L:= []) hm (fun _ hk=>hk.elim) rfl
theorem Bn {w:World} {B fb mc:Nat} {F:aG} {V:c5} (h:bB w B fb mc F V):iH w B fb mc F V:=⟨h.cells,h.o9,h.eK,h.al,h.dZ,h.dJ,h.nx,h.lo,h.fN⟩
theorem iH.xD {w w1 j:World} {B fb mc:Nat} {F:aG} {V:c5} {v:Value} {x:cX} {f:Value→Option Value} (h:iH w B fb mc F V) (hf:bf w.heap mc (jD .u16) f) (s:∀ y:Nat,f (az y)=((F.a6++ [x]).findIdx? fun c=>decide (c.flag=y)).map fun i:Nat=>Value.int .i64 i) (hm:Md (fun k=>V.v11.ownBlock=some k) w w1) (q:World.ownsRow w1 B 157 5 v (F.a6++ [x]).length (g6 (F.a6++ [x]))) (a:Md (fun k=>k=fb) w1 j) (hc:j.heap[fb]? =some (.cells (iT {F with a6:=F.a6++ [x]} {V with v11:=v} mc).toArray 89 (0,0))):bB j B fb mc {F with a6:=F.a6++ [x]} {V with v11:=v} :=by
 have hT:TF w [159] (fun k=>V.v11.ownBlock=some k):=TF.own h.dZ (by decide)
 have hcl:=hm.g3 hT h.cells (by decide)
 have hT2:TF w1 [91] (fun k=>k=fb):=TF.eq (cW hcl) (by decide)
 have hfl:∀ k,V.v11.ownBlock=some k→∀ cur z,w.heap[k]?≠some (.cells cur 71 z):=fc h.dZ (by decide)
 have p:∀ k,k=fb→∀ cur z,w1.heap[k]?≠some (.cells cur 71 z):=ez hcl (by decide)
 have hmt:=bX (hf.md hm (hT.no (bX hf) (by decide)))
 exact ⟨hc,cg (cg h.o9 hm hT (by decide)) a hT2 (by decide),cg (cg h.eK hm hT (by decide)) a hT2 (by decide),(h.al.md hm hfl).md a p,bA q a (fun k hk hf=>cz q hcl (by decide) (hf ▸ hk)),cg (cg h.dJ hm hT (by decide)) a hT2 (by decide),(h.nx.md hm hfl).md a p,⟨f,(hf.md hm (hT.no (bX hf) (by decide))).md a (hT2.no hmt (by decide)),s⟩,h.lo,h.fN⟩
theorem bg.DJ {w w1 c:World} {B:Nat} {H:bd} {F F':aG} {R:dF} {rows:List Rw} {ln:Nat} {seen:List Tx} {v:Value} {q:eI} (h:bg w B H F R rows ln seen) (hm:Md (fun k=>R.vn.ownBlock=some k) w w1) (i:World.ownsRow w1 B 3 1 v (F.rules++ [q]).length ((F.rules++ [q]).map fun r=>Value.int .i64 (r.line:Nat))) (a:Md (fun k=>k=H.rb) w1 c) (hc:c.heap[H.rb]? =some (.cells (mx H {R with vn:=v} ln).toArray 92 (0,0))) (hr:F'.rules=F.rules++ [q]) (hd:∀ x,cQ F' x=cQ F x):bg c B H F' {R with vn:=v} rows ln seen:=by
 have hT:TF w [5] (fun k=>R.vn.ownBlock=some k):=TF.own h.on (by decide)
 have hcl:=hm.g3 hT h.cells (by decide)
 have hT2:TF w1 [94] (fun k=>k=H.rb):=TF.eq (cW hcl) (by decide)
 obtain ⟨f,hf,j⟩:=h.sm
 obtain ⟨g,hg,hg2⟩:=h.tm
 have hf1:=hf.md hm (hT.no (bX hf) (by decide))
 have hg1:=hg.md hm (hT.no (bX hg) (by decide))
 exact ⟨hc,(h.rws.md hm (fc h.on (by decide))).md a (ez hcl (by decide)),(h.rt.md hm (fc h.on (by decide))).md a (ez hcl (by decide)),⟨f,hf1.md a (hT2.no (bX hf1) (by decide)),j⟩,⟨g,hg1.md a (hT2.no (bX hg1) (by decide)),fun x hx=>by rw [hd]; exact hg2 x hx⟩,by rw [hr]; exact bA i a (fun k hk hf=>cz i hcl (by decide) (hf ▸ hk)),h.lo,h.ne⟩
theorem Bu {cs:List cX} {x:Nat} (h:(dy cs x).isSome=false):cs.findIdx? (fun c=>decide (c.flag=x))=none:=by
 rw [List.findIdx?_eq_none_iff]
 unfold dy at h
 rw [Option.isSome_eq_false_iff,Option.isNone_iff_eq_none,List.find?_eq_none] at h
 intro c hc
 simpa using h c hc
theorem AD {F:aG} {c:cX} (y:Nat):cQ {F with a6:=F.a6++ [c]} y=(decide (y=c.flag) || cQ F y):=by
 have h1:(dy (F.a6++ [c]) y).isSome=((dy F.a6 y).isSome || decide (y=c.flag)):=by
  unfold dy
  rw [List.find?_append,Option.isSome_or]
  congr 1
  by_cases h:c.flag=y
  · simp [h]
  · simp [h,Ne.symm h]
 unfold cQ
 show (decide (y∈F.sp) || (dy (F.a6++ [c]) y).isSome)=_
 rw [h1]
 cases decide (y∈F.sp) <;> cases (dy F.a6 y).isSome <;> cases decide (y=c.flag) <;> rfl
theorem zO {F:aG} {c:cX} {f:Value→Option Value} (hd:cQ F c.flag=false) (hf:∀ x:Nat,f (az x)=(F.a6.findIdx? fun c=>decide (c.flag=x)).map fun i:Nat=>Value.int .i64 i) (y:Nat):aX f (az c.flag) (.int .i64 (F.a6.length:Nat)) (az y)=((F.a6++ [c]).findIdx? fun c=>decide (c.flag=y)).map fun i:Nat=>Value.int .i64 i:=by
 unfold cQ at hd
 rw [Bool.or_eq_false_iff] at hd
 rw [List.findIdx?_append]
 by_cases h:y=c.flag
 · subst h
   rw [mr,Bu hd.2]
   simp
 · rw [lA (fun h2=>h (vQ h2)),hf y]
   cases F.a6.findIdx? fun c=>decide (c.flag=y) <;> simp [Ne.symm h]
theorem sn {eof ln e:Nat} {F:aG} {rows:List Rw} {r:List Tx} (h:eS F (r.getD 1 [])= .error e):eN eof F rows ln r= .error (ln,e):=by unfold eN; rw [h]
theorem sr {eof ln x:Nat} {F:aG} {rows:List Rw} {r:List Tx} (h:eS F (r.getD 1 [])= .ok x) (h1:r.getD 2 []≠[89]) (h2:r.getD 2 []≠[78]):eN eof F rows ln r= .error (ln,114):=by unfold eN; rw [h]; exact if_pos ⟨h1,h2⟩
theorem zm {eof ln x e:Nat} {F:aG} {rows:List Rw} {r:List Tx} (h:eS F (r.getD 1 [])= .ok x) (h1:r.getD 2 []= [89]∨r.getD 2 []= [78]) (h2:cH (r.getD 3 []) 1024= .error e):eN eof F rows ln r= .error (ln,e):=by
 unfold eN; rw [h]; simp only; rw [if_neg (fun h3=>h1.elim h3.1 h3.2),h2]
theorem zn {eof ln x n:Nat} {F:aG} {rows:List Rw} {r:List Tx} (h:eS F (r.getD 1 [])= .ok x) (h1:r.getD 2 []= [89]∨r.getD 2 []= [78]) (h2:cH (r.getD 3 []) 1024= .ok n) (h3:1024 < F.rules.length+n):eN eof F rows ln r= .error (ln,117):=by
 unfold eN; rw [h]; simp only; rw [if_neg (fun h3=>h1.elim h3.1 h3.2),h2]; simp only; rw [if_pos h3]
theorem o0 {eof ln x n:Nat} {F:aG} {rows:List Rw} {r:List Tx} {e:Nat×Nat} (h:eS F (r.getD 1 [])= .ok x) (h1:r.getD 2 []= [89]∨r.getD 2 []= [78]) (h2:cH (r.getD 3 []) 1024= .ok n) (h3:¬1024 < F.rules.length+n) (h4:group [r.getD 0 [],r.getD 1 []] (gN F.kind F.aliases (⟨x,(if r.getD 0 []=bO then 2 else 1:Nat),(decide (r.getD 2 []= [89])),F.rules.length,n⟩:cX)) eof n rows= .error e):eN eof F rows ln r= .error e:=by
 unfold eN; rw [h]; simp only; rw [if_neg (fun h3=>h1.elim h3.1 h3.2),h2]; simp only; rw [if_neg h3,h4]
theorem zo {eof ln x n:Nat} {F:aG} {rows:List Rw} {r:List Tx} {q:List eI×List Rw} (h:eS F (r.getD 1 [])= .ok x) (h1:r.getD 2 []= [89]∨r.getD 2 []= [78]) (h2:cH (r.getD 3 []) 1024= .ok n) (h3:¬1024 < F.rules.length+n) (h4:group [r.getD 0 [],r.getD 1 []] (gN F.kind F.aliases (⟨x,(if r.getD 0 []=bO then 2 else 1:Nat),(decide (r.getD 2 []= [89])),F.rules.length,n⟩:cX)) eof n rows= .ok q):eN eof F rows ln r= .ok ({F with a6:=F.a6++ [(⟨x,(if r.getD 0 []=bO then 2 else 1:Nat),(decide (r.getD 2 []= [89])),F.rules.length,n⟩:cX)],rules:=F.rules++q.1},q.2):=by
 unfold eN; rw [h]; simp only; rw [if_neg (fun h3=>h1.elim h3.1 h3.2),h2]; simp only; rw [if_neg h3,h4]
theorem su (B:Nat) (H:bd) (F:aG) (rows:List Rw) (ln:Nat) (seen:List Tx) (r:List Tx) (bI:Nat) (M:Option Addr) (O:Nat) (w:World) (a:St w B H F rows ln seen) (hT:Tg w bI 9 r.length (.slice M r.length O) (r.map str)) (hr:r.length=4) (hrl:∀ x∈r,x.length≤70000) (d1:F.bH.length+F.aliases.length+F.a6.length+F.rules.length+rows.length < 70000):
 cM Tryz.prog 65 (List.toArray [.pointer (some ⟨H.rb,0,none⟩),.slice M r.length O]) w (eH B H seen (eN H.eof F rows ln r) w) (eG B H (eN H.eof F rows ln r) w):=by
 obtain ⟨V,R,I,Z,aj⟩:=a
 have hTs:=hT.bN
 have d9:(r.getD 1 []).length≤70000:=hrl _ (du (by omega))
 have eb:(r.getD 2 []).length≤70000:=hrl _ (du (by omega))
 have ec:(r.getD 3 []).length≤70000:=hrl _ (du (by omega))
 have hlo:=Z.lo
 have hbl:=aj.len
 have hrb0:=(Array.getElem?_eq_some_iff.1 Z.cells).1
 obtain ⟨ch,g4,dC⟩:=dw I.dJ
 obtain ⟨bK,gl,cb⟩:=dw I.dZ
 have c2:Hb.ay w.heap H.fb 12=some (.slice ch F.rules.length g4):=by rw [← dC]; exact (aQ I.cells).trans rfl
 have d5:Hb.ay w.heap H.fb 11=some (.slice bK F.a6.length gl):=by rw [← cb]; exact (aQ I.cells).trans rfl
 have c7:∀ b,w.heap.size≤b→¬(V.v11.ownBlock=some b):=fun b hb h=>by have :=cU I.dZ h; omega
 obtain ⟨eh,dB,b9⟩:=Z.tm
 refine e5 Tryz.func65 rfl Tryz.ntmps65 rfl ?_
 refine dm (fun a3 bD=> ∃ (x G:Nat),(eS F (r.getD 1 [])= .ok x)∧(x≠0)∧(cQ F x=false)∧(w.heap.size≤G)∧(bD.heap[G]? =some (.cells [az x,.int .i64 (1:Nat),.bool false,.int .i64 (F.rules.length:Nat),.int .i64 (0:Nat)].toArray 157 (0,0)))∧(Wk w bD)∧(a3 0= .pointer (some ⟨H.rb,0,none⟩))∧(a3 1= .slice M r.length O)∧(a3 4= .pointer (some ⟨G,0,none⟩))) ?_ ?_
 have A:(fun w'=>Wk w w') w.drew:=(Md.refl _ _).drew
 refine bF (fun w'=>Wk w w') rfl wide A (hp 0 rfl (by kernel_rfl) (fun _ _=>ao (.pointer (some ⟨H.rb,0,none⟩)) rfl) A (hp 1 rfl (by kernel_rfl) (fun _ _=>ao (.slice M r.length O) rfl) A (hp 2 rfl (by kernel_rfl) (fun _ _=>aH bZ rfl rfl (by omega) (ak.ok (hTs.2) (bG (by omega)))) A (hp 3 rfl (by kernel_rfl) (fun w' a=>ld bQ rfl (Wk.ay a (bE.get (i:=1) hTs.2 (by omega)))) A (hp 5 rfl (by kernel_rfl) (fun _ _=>ao (.pointer (some ⟨H.rb,0,none⟩)) rfl) A (hp 6 rfl (by kernel_rfl) (fun _ _=>nc rfl) A (hp 7 rfl (by kernel_rfl) (fun _ _=>fa dI rfl) A ?_)))))))
 refine hp 8 rfl (by kernel_rfl) (fun w' a=>ld dx rfl (Wk.ay a ((aQ Z.cells).trans rfl))) A (hp 9 rfl (by kernel_rfl) (fun _ _=>nc rfl) A (hp 10 rfl (by kernel_rfl) (fun _ _=>fa dz rfl) A (hp 11 rfl (by kernel_rfl) (fun _ _=>fa jy rfl) A (hp 12 rfl (by kernel_rfl) (fun w' a=>ld km rfl (Wk.ay a (c2))) A (hp 13 rfl (by kernel_rfl) (fun _ _=>bl oq rfl rfl) A (Cp (Pn:=fun c w'=> ∃ e,eS F (r.getD 1 [])= .error e∧c=eB 25 ln (e:Nat)∧Wk w.drew w') 4 15 rfl rfl (by kernel_rfl) rfl rfl ?_ (fun c w' s av I=>by obtain ⟨e,he,h,h2⟩:=s; exact ⟨ln,e,sn he,h,Wk.mw (Md.trans A h2)⟩) ?_))))))
 refine (bz oW (pN B H F V R rows ln seen (r.getD 1 []) w.drew (I.wk A) (Z.wk A) aj.kd (by omega)) rfl fun v10 w10 hR10=> ?_)
 obtain ⟨x,hx,hx0,rfl,ar,aV⟩:=hR10
 have aa:(fun w'=>Wk w w') w10:=Md.trans A aV
 refine ⟨aa,?_⟩
 refine hp 14 rfl (by kernel_rfl) (fun _ _=>bT (ps:= [(0,az x),(1,.int .i64 (1:Nat)),(3,.int .i64 (F.rules.length:Nat))]) (L:= [az x,.int .i64 (1:Nat),.bool false,.int .i64 (F.rules.length:Nat),.int .i64 0]) qF rfl (rfl)) aa (he 15 rfl (by kernel_rfl) (fK mK fun G w4 cZ bo a7=> ?_))
 have ah:(fun w'=>Wk w w') w4:=Md.trans aa bo.md
 refine ⟨ah,?_⟩
 refine he 16 rfl (by kernel_rfl) (ga k0 rfl rfl rfl rfl a7 (by decide) fun w5 bk bb=> ?_)
 have aP:(fun w'=>Wk w w') w5:=Md.trans' ah bk (fun k hk h=>by have h1:=Md.size aa; have h2:=Md.size A; omega)
 refine ⟨aP,?_⟩
 exact hn (by kernel_rfl) (tn (⟨x,G,hx,hx0,ar,((by have h1:=Md.size aa; have h2:=Md.size A; omega)),bb,aP,rfl,rfl,rfl⟩))
 refine (fK mK fun G w4 cZ bo a7=> ?_)
 have ah:(fun w'=>Wk w w') w4:=Md.trans A bo.md
 refine ⟨ah,?_⟩
 refine lk 4 rfl (by kernel_rfl) rfl (bz oW (pN B H F V R rows ln seen (r.getD 1 []) w4 (I.wk ah) (Z.wk ah) aj.kd (by omega)) rfl fun v10 w10 hR10=> ?_) (fun c w' s av I=>by obtain ⟨e,he,h,h2⟩:=s; exact ⟨ln,e,sn he,h,Wk.mw (Md.trans ah h2)⟩)
 obtain ⟨x,hx,hx0,rfl,ar,aV⟩:=hR10
 have aa:(fun w'=>Wk w w') w10:=Md.trans ah aV
 refine ⟨aa,?_⟩
 refine hp 14 rfl (by kernel_rfl) (fun _ _=>bT (ps:= [(0,az x),(1,.int .i64 (1:Nat)),(3,.int .i64 (F.rules.length:Nat))]) (L:= [az x,.int .i64 (1:Nat),.bool false,.int .i64 (F.rules.length:Nat),.int .i64 0]) qF rfl (rfl)) aa (he 16 rfl (by kernel_rfl) (ga k0 rfl rfl rfl rfl (Wk.au aV a7) (by decide) fun w5 bk bb=> ?_))
 have aP:(fun w'=>Wk w w') w5:=Md.trans' aa bk (fun k hk h=>by have h1:=Md.size aa; have h2:=Md.size A; omega)
 refine ⟨aP,?_⟩
 exact hn (by kernel_rfl) (tn (⟨x,G,hx,hx0,ar,((by have h1:=Md.size aa; have h2:=Md.size A; omega)),bb,aP,rfl,rfl,rfl⟩))
 rintro a3 bD ⟨x,G,hx,hx0,ar,hq4,b7,aU,df,dg,dh⟩
 refine fx 0 df (fx 1 dg (fx 4 dh ?_))
 refine dm (fun a4 aE=>(aE.heap[G]? =some (.cells [az x,.int .i64 ((if r.getD 0 []=bO then 2 else 1:Nat):Nat),.bool false,.int .i64 (F.rules.length:Nat),.int .i64 (0:Nat)].toArray 157 (0,0)))∧(Wk w aE)∧(a4 0= .pointer (some ⟨H.rb,0,none⟩))∧(a4 1= .slice M r.length O)∧(a4 4= .pointer (some ⟨G,0,none⟩))) ?_ ?_
 refine sq (fun cg bi=>rg rfl (p (ao (.slice M r.length O) rfl) (p (aH bZ rfl rfl (by omega) (ak.ok (ak.wk hTs.2 aU) (bG (by omega)))) (p (ld bQ rfl (bE.get (i:=0) (ak.wk hTs.2 aU) (by omega))) (p (e7 rfl rfl) (nl (tn (bi _ _ ?_))))))))
 refine cd rfl (fun bt=> ?_) (fun bt=> ?_)
 exact rg rfl (p (fa nE rfl) (e (c4 iR rfl rfl (v:= .int .i64 (2:Nat)) rfl b7 (by show _ < 5; decide) fun w6 cG hB6=>nl (tn (⟨((by rw [if_pos (show r.getD 0 []=bO from bt)]; exact hB6)),((aU.trans' cG (fun k hk h=>by omega))),rfl,rfl,rfl⟩)))))
 exact aA (tn (⟨((by rw [if_neg (show ¬r.getD 0 []=bO from bt)]; exact b7)),aU,rfl,rfl,rfl⟩))
 rintro a4 aE ⟨hq3,Y,di,dj,dk⟩
 refine fx 0 di (fx 1 dj (fx 4 dk ?_))
 refine dm (fun a5 ce=>(r.getD 2 []= [89]∨r.getD 2 []= [78])∧(ce=aE)∧(a5 0= .pointer (some ⟨H.rb,0,none⟩))∧(a5 1= .slice M r.length O)∧(a5 4= .pointer (some ⟨G,0,none⟩))) ?_ ?_
 refine rg rfl (p (ao (.pointer (some ⟨H.rb,0,none⟩)) rfl) (p (ao (.slice M r.length O) rfl) (p (aH bZ rfl rfl (by omega) (ak.ok (ak.wk hTs.2 Y) (bG (by omega)))) (p (ld bQ rfl (bE.get (i:=2) (ak.wk hTs.2 Y) (by omega))) (p (e7 rfl rfl) (p mv (gs (t:=31) rfl (fun aZ=> ?_) (fun aZ=> ?_))))))))
 refine sk rfl rfl rfl rfl (sk rfl rfl rfl rfl (sk rfl rfl rfl rfl (sk rfl rfl rfl rfl (p (bu rfl) (eP rfl (bz dN (dQ H.rb ln _ 114 aE (Wk.ay Y Z.cy) (by decide)) rfl fun dH w37 bq=> ?_) (fun c w' s av I=>by first | exact absurd s.2.1 (by decide) | exact ⟨ln,114,sr hx aZ (of_decide_eq_false s.2.1),s.1,by rw [s.2.2]; exact Wk.mw Y⟩))))))
 obtain ⟨rfl,cc,rfl⟩:=bq
 exact nl (tn (⟨(.inl aZ),rfl,rfl,rfl,rfl⟩))
 refine pg rfl rfl rfl (ao (.slice M r.length O) rfl) (pg rfl rfl rfl (aH bZ rfl rfl (by omega) (ak.ok (ak.wk hTs.2 Y) (bG (by omega)))) (pg rfl rfl rfl (ld bQ rfl (bE.get (i:=2) (ak.wk hTs.2 Y) (by omega))) (pg rfl rfl rfl (e7 rfl rfl) (p (bc rfl) (eP rfl (bz dN (dQ H.rb ln _ 114 aE (Wk.ay Y Z.cy) (by decide)) rfl fun dH w37 bq=> ?_) (fun c w' s av I=>by first | exact absurd s.2.1 (by decide) | exact ⟨ln,114,sr hx aZ (of_decide_eq_false s.2.1),s.1,by rw [s.2.2]; exact Wk.mw Y⟩))))))
 obtain ⟨rfl,cc,rfl⟩:=bq
 exact nl (tn (⟨(.inr (of_decide_eq_true cc)),rfl,rfl,rfl,rfl⟩))
 rintro a5 ce ⟨aB,dD,dl,dn,dq⟩
 refine fx 0 dl (fx 1 dn (fx 4 dq ?_))
 subst dD
 refine sq (fun cg bi=>rg rfl (p (ao (.slice M r.length O) rfl) (p (aH bZ rfl rfl (by omega) (ak.ok (ak.wk hTs.2 Y) (bG (by omega)))) (p (ld bQ rfl (bE.get (i:=2) (ak.wk hTs.2 Y) (by omega))) (p (e7 rfl rfl) (p (fa tx rfl) (e (c4 sB rfl rfl (v:= .bool (decide (r.getD 2 []= [89]))) rfl hq3 (by show _ < 5; decide) fun w7 cH cp=> ?_))))))))
 have hE4:=Y.trans' cH (fun k hk h=>by omega)
 refine nl (tn (bi _ _ (sq (fun dO cv=>rg rfl (p (ao (.pointer (some ⟨H.rb,0,none⟩)) rfl) (p (ao (.slice M r.length O) rfl) (p (aH bZ rfl rfl (by omega) (ak.ok (ak.wk hTs.2 hE4) (bG (by omega)))) (p (ld bQ rfl (bE.get (i:=3) (ak.wk hTs.2 hE4) (by omega))) ?_))))))))
 refine eP rfl (bz nf (nR H.rb ln (r.getD 3 []) 1024 w7 (Wk.ay hE4 Z.cy) (by omega) (by omega)) rfl fun ek em cV=> ?_) (fun c w' s av I=>by obtain ⟨e,he,h,h2⟩:=s; exact ⟨ln,e,zm hx aB he,h,Wk.mw (hE4.trans h2)⟩)
 obtain ⟨n,hnx,rfl,hE47⟩:=cV
 have hnl:=qh hnx
 refine p (fa pI rfl) (e (c4 iR rfl rfl (v:= .int .i64 (n:Nat)) rfl (Wk.au hE47 cp) (by show _ < 5; decide) fun w8 cJ cq=> ?_))
 have hE5:=(hE4.trans hE47).trans' cJ (fun k hk h=>by omega)
 have hb8:w8.heap[G]? =some (.cells [az x,.int .i64 ((if r.getD 0 []=bO then 2 else 1:Nat):Nat),.bool (decide (r.getD 2 []= [89])),.int .i64 (F.rules.length:Nat),.int .i64 (n:Nat)].toArray 157 (0,0)):=cq
 refine nl (tn (cv _ _ (sq (fun dP cw=>rg rfl (p (ao (.pointer (some ⟨H.rb,0,none⟩)) rfl) (p (fa BR rfl) (p (ld eu rfl ((aQ hb8).trans rfl)) (p (fa pI rfl) ?_))))))))
 refine p (ld eu rfl ((aQ hb8).trans rfl)) (p (a8 ((F.rules.length+n:Nat):Int) rfl rfl (aI (by omega) (by omega))) (p (le rfl rfl) (eP rfl (bz dN (dQ H.rb ln _ 117 w8 (Wk.ay hE5 Z.cy) (by decide)) rfl fun el w56 cY=> ?_) (fun c w' s av I=>⟨ln,117,zn hx aB hnx (by have :=of_decide_eq_false s.2.1; omega),s.1,by rw [s.2.2]; exact Wk.mw hE5⟩))))
 obtain ⟨rfl,dE,rfl⟩:=cY
 have aT:¬1024 < F.rules.length+n:=by have :=of_decide_eq_true dE; omega
 have hR5:=Z.wk hE5
 have hF5:=I.wk hE5
 have ht5:=dB.wk hE5
 refine nl (tn (cw _ _ (sq (fun dR cx=> ?_))))
 have ac:(fun w'=>Wk w56 w') w56.drew:=(Md.refl _ _).drew
 refine da (fun w'=>Wk w56 w') 8 rfl wide ac (lq 0 rfl (by kernel_rfl) (fun _ _=>ao (.pointer (some ⟨H.rb,0,none⟩)) rfl) ac (lq 1 rfl (by kernel_rfl) (fun _ _=>nc rfl) ac (lq 2 rfl (by kernel_rfl) (fun _ _=>fa pK rfl) ac (lq 3 rfl (by kernel_rfl) (fun w' a=>ld lS rfl (Wk.ay a ((aQ hR5.cells).trans rfl))) ac (lq 4 rfl (by kernel_rfl) (fun _ _=>fa pH rfl) ac (lq 5 rfl (by kernel_rfl) (fun w' a=>ld ba rfl (Wk.ay a ((aQ hb8).trans rfl))) ac (lq 6 rfl (by kernel_rfl) (fun w' a=>iX db jj kv (bf.md (ht5) a id) rfl rfl (⟨_,rfl⟩) (show _=Value.int .i64 0 from (b9 x hx0).trans (by rw [ar]; rfl))) ac ?_)))))))
 refine lq 7 rfl (by kernel_rfl) (fun _ _=>a8 ((1:Nat):Int) rfl rfl (aI (by omega) (by omega))) ac (bJ 8 rfl (by kernel_rfl) (by kernel_rfl) (lI db kv (ht5.wk ac) rfl rfl rfl (⟨_,rfl⟩) fun aF cI cO=> ?_))
 have hM7x:=eW cI
 have hR7:bg aF B H {F with a6:=F.a6++ [(⟨x,(if r.getD 0 []=bO then 2 else 1:Nat),(decide (r.getD 2 []= [89])),F.rules.length,n⟩:cX)]} R rows ln seen:=hR5.ml hM7x cO rfl (vK ar b9 (fun y _=>AD y))
 have hF7:=hF5.ml hR5 hM7x
 have hb9:=hM7x.au hb8 (fun h=>ht5.jF (h ▸ hb8))
 have hT7:=(hT.wk hE5).md hM7x (fun k hk cur z hg=>by subst hk; exact ht5.jF hg)
 have hMw7:=(Wk.mw hE5).trans (cK.mt hR5 hM7x)
 obtain ⟨cf,bv,c3⟩:=hF7.cm
 have c1:Hb.ay aF.heap H.fb 11=some (.slice bK F.a6.length gl):=by rw [← cb]; exact (aQ hF7.cells).trans rfl
 refine c9 (by kernel_rfl) ?_
 refine tn (cx _ _ (sq (fun dS cA=> ?_)))
 have C:(fun w'=>Wk aF w') aF.drew:=(Md.refl _ _).drew
 refine da (fun w'=>Wk aF w') 18 rfl wide C (lq 0 rfl (by kernel_rfl) (fun _ _=>ao (.pointer (some ⟨H.rb,0,none⟩)) rfl) C (lq 1 rfl (by kernel_rfl) (fun _ _=>nc rfl) C (lq 2 rfl (by kernel_rfl) (fun _ _=>fa dI rfl) C (lq 3 rfl (by kernel_rfl) (fun w' a=>ld dx rfl (Wk.ay a ((aQ hR7.cells).trans rfl))) C (lq 4 rfl (by kernel_rfl) (fun _ _=>nc rfl) C (lq 5 rfl (by kernel_rfl) (fun _ _=>fa tA rfl) C (lq 6 rfl (by kernel_rfl) (fun w' a=>ld lS rfl (Wk.ay a ((aQ hF7.cells).trans rfl))) C ?_)))))))
 refine lq 7 rfl (by kernel_rfl) (fun _ _=>fa pH rfl) C (lq 8 rfl (by kernel_rfl) (fun w' a=>ld ba rfl (Wk.ay a ((aQ hb9).trans rfl))) C (lq 9 rfl (by kernel_rfl) (fun _ _=>ao (.pointer (some ⟨H.rb,0,none⟩)) rfl) C (lq 10 rfl (by kernel_rfl) (fun _ _=>nc rfl) C (lq 11 rfl (by kernel_rfl) (fun _ _=>fa dI rfl) C (lq 12 rfl (by kernel_rfl) (fun w' a=>ld dx rfl (Wk.ay a ((aQ hR7.cells).trans rfl))) C (lq 13 rfl (by kernel_rfl) (fun _ _=>nc rfl) C (lq 14 rfl (by kernel_rfl) (fun _ _=>fa dz rfl) C ?_)))))))
 refine lq 15 rfl (by kernel_rfl) (fun _ _=>fa lh rfl) C (lq 16 rfl (by kernel_rfl) (fun w' a=>ld mY rfl (Wk.ay a (c1))) C (lq 17 rfl (by kernel_rfl) (fun _ _=>bl vT rfl rfl) C (bJ 18 rfl (by kernel_rfl) (by kernel_rfl) (lI db kv (bv.wk C) rfl rfl rfl (⟨_,rfl⟩) fun aJ cL cP=> ?_))))
 have cR:bf aJ.heap H.mc (jD .u16) (aX cf (az x) (.int .i64 (F.a6.length:Nat))):=cP
 have hM8x:=eW cL
 have bs:TF aF [1] (fun k=>k=H.mc):=TF.eq (bX bv) (by decide)
 have hX8:=(Bn hF7).md (L:= [1]) hM8x bs (by decide)
 have hR8:=hR7.md (L:= [1]) hM8x bs (by decide) hR7.ne.2.1 hR7.ne.2.2
 have hb10:=hM8x.g3 bs hb9 (by decide)
 have hT8x:=hT7.md hM8x (fun k hk cur z hg=>by subst hk; exact bv.jF hg)
 have hMw8:=hMw7.trans (hM8x.mono (fun k _ hk=>⟨hk ▸ hF7.lo.2,.inr (.inr (.inl hk))⟩))
 have hn4:=c7 G hq4
 have aS:¬(V.v11.ownBlock=some H.rb):=cz hX8.dZ hR8.cells (by decide)
 have bw:¬(V.v11.ownBlock=some H.fb):=cz hX8.dZ hX8.cells (by decide)
 refine c9 (by kernel_rfl) ?_
 refine tn (cA _ _ (sq (fun dT cB=> ?_)))
 have U:(fun w'=>Md (fun k=>V.v11.ownBlock=some k) aJ w') aJ.drew:=(Md.refl _ _).drew
 refine da (fun w'=>Md (fun k=>V.v11.ownBlock=some k) aJ w') 18 rfl wide U (bj 0 rfl (by kernel_rfl) (fun _=>ao (.pointer (some ⟨H.rb,0,none⟩)) rfl) (fun _=>U) (bj 1 rfl (by kernel_rfl) (fun _=>nc rfl) (fun _=>U) (bj 2 rfl (by kernel_rfl) (fun _=>fa dI rfl) (fun _=>U) (fq 3 rfl (by kernel_rfl) (fun w' a=>ld dx rfl (Md.ay a ((aQ hR8.cells).trans rfl) aS)) U (bj 4 rfl (by kernel_rfl) (fun _=>ao (.pointer (some ⟨H.rb,0,none⟩)) rfl) (fun _=>U) (bj 5 rfl (by kernel_rfl) (fun _=>nc rfl) (fun _=>U) (bj 6 rfl (by kernel_rfl) (fun _=>fa dI rfl) (fun _=>U) ?_)))))))
 refine fq 7 rfl (by kernel_rfl) (fun w' a=>ld dx rfl (Md.ay a ((aQ hR8.cells).trans rfl) aS)) U (bj 8 rfl (by kernel_rfl) (fun _=>nc rfl) (fun _=>U) (bj 9 rfl (by kernel_rfl) (fun _=>fa dz rfl) (fun _=>U) (bj 10 rfl (by kernel_rfl) (fun _=>fa lh rfl) (fun _=>U) (fq 11 rfl (by kernel_rfl) (fun w' a=>ld mY rfl (Md.ay a ((aQ hX8.cells).trans rfl) bw)) U (fq 12 rfl (by kernel_rfl) (fun w' a=>dp lQ rfl (rfl) (fun j hj=>a9.cC ⟨_,Md.au a hb10 hn4⟩ j)) U (fM 13 rfl (by kernel_rfl) (kp n7 rfl rfl rfl fun d0 w96 d4 bR cr=> ?_)))))))
 have hE96:=eW bR.md
 have hX9:=hX8.wk hE96
 have hR9:=hR8.wk hE96
 have hsz9:=(Array.getElem?_eq_some_iff.1 hR9.cells).1
 have b0:(fun w'=>Md (fun k=>V.v11.ownBlock=some k) aJ w') w96:=U.trans' bR.md (fun _ _ h=>h.elim)
 refine ⟨b0,?_⟩
 refine fM 14 rfl (by kernel_rfl) (ap n7 (hX9.dZ) rfl (by omega) rfl (ak.ea cr) (rfl) (rfl) (by omega) (by omega) fun bC w97 b6 aq eg d8=> ?_)
 have hMw9:=(hMw8.trans (Wk.mw hE96)).trans (Mw.of aq (TF.own hX9.dZ (by decide)) (fun k hk=>(cU hX9.dZ hk).1))
 have hR10:=bg.own hR9 hX9.dZ aq (by decide)
 have hc10:=aq.au hX9.cells (cz hX9.dZ hX9.cells (by decide))
 have hb11:=aq.au (Wk.au hE96 hb10) hn4
 have hT10:=(hT8x.wk hE96).md aq (fc hX9.dZ (by decide))
 have de:World.ownsRow w97 B 157 5 bC (F.a6++ [(⟨x,(if r.getD 0 []=bO then 2 else 1:Nat),(decide (r.getD 2 []= [89])),F.rules.length,n⟩:cX)]).length (g6 (F.a6++ [(⟨x,(if r.getD 0 []=bO then 2 else 1:Nat),(decide (r.getD 2 []= [89])),F.rules.length,n⟩:cX)])):=by rw [show g6 (F.a6++ [(⟨x,(if r.getD 0 []=bO then 2 else 1:Nat),(decide (r.getD 2 []= [89])),F.rules.length,n⟩:cX)])=g6 F.a6++jt (⟨x,(if r.getD 0 []=bO then 2 else 1:Nat),(decide (r.getD 2 []= [89])),F.rules.length,n⟩:cX) from by simp [g6],List.length_append]; exact b6
 have aY:(fun w'=>Md (fun k=>V.v11.ownBlock=some k) aJ w') w97:=b0.trans' aq (fun _ _ h=>h)
 refine ⟨aY,?_⟩
 refine bj 15 rfl (by kernel_rfl) (fun _=>nc rfl) (fun _=>aY) (bj 16 rfl (by kernel_rfl) (fun _=>fa dz rfl) (fun _=>aY) (bj 17 rfl (by kernel_rfl) (fun _=>fa lh rfl) (fun _=>aY) (bJ 18 rfl (by kernel_rfl) (by kernel_rfl) (c4 sG rfl rfl (v:=bC) (dA b6) hc10 (by show _ < 14; omega) fun w9 hM9 bh=> ?_))))
 have hF11:=iH.xD (x:=(⟨x,(if r.getD 0 []=bO then 2 else 1:Nat),(decide (r.getD 2 []= [89])),F.rules.length,n⟩:cX)) hX9 (cR.wk hE96) (zO (c:=(⟨x,(if r.getD 0 []=bO then 2 else 1:Nat),(decide (r.getD 2 []= [89])),F.rules.length,n⟩:cX)) ar c3) aq de hM9 bh
 have hR11:=bg.nz hR10 hc10 hM9
 have hb12:=hM9.au hb11 (fun h=>by rw [h,hc10] at hb11; cases hb11)
 have hT11:=hT10.md hM9 (ez hc10 (by decide))
 have hMw10:=hMw9.trans (Mw.of hM9 (TF.eq (cW hc10) (by decide)) (fun k hk=>hk ▸ hX9.lo.1))
 refine c9 (by kernel_rfl) ?_
 refine tn (cB _ _ (sq (fun dU cD=>rg rfl (p (fa pI rfl) (p (ld eu rfl ((aQ hb12).trans rfl)) (p mv (nl (tn (cD _ _ ?_)))))))))
 refine au (lp (fun bL aK wI=> ∃ (i:Nat) (xs:List eI) (aD:List Rw) (a0:Nat) (E:c5) (R':dF),(i≤n)∧(ed [r.getD 0 [],r.getD 1 []] (gN F.kind F.aliases (⟨x,(if r.getD 0 []=bO then 2 else 1:Nat),(decide (r.getD 2 []= [89])),F.rules.length,n⟩:cX)) H.eof (group [r.getD 0 [],r.getD 1 []] (gN F.kind F.aliases (⟨x,(if r.getD 0 []=bO then 2 else 1:Nat),(decide (r.getD 2 []= [89])),F.rules.length,n⟩:cX)) H.eof n rows) xs (n - i) aD)∧(xs.length=i)∧(bB wI B H.fb H.mc {F with a6:=F.a6++ [(⟨x,(if r.getD 0 []=bO then 2 else 1:Nat),(decide (r.getD 2 []= [89])),F.rules.length,n⟩:cX)],rules:=F.rules++xs} E)∧(bg wI B H {F with a6:=F.a6++ [(⟨x,(if r.getD 0 []=bO then 2 else 1:Nat),(decide (r.getD 2 []= [89])),F.rules.length,n⟩:cX)],rules:=F.rules++xs} R' aD a0 seen)∧(fO {F with a6:=F.a6++ [(⟨x,(if r.getD 0 []=bO then 2 else 1:Nat),(decide (r.getD 2 []= [89])),F.rules.length,n⟩:cX)],rules:=F.rules++xs} aD seen)∧(cK B H w wI)∧(wI.heap[G]? =some (.cells [az x,.int .i64 ((if r.getD 0 []=bO then 2 else 1:Nat):Nat),.bool (decide (r.getD 2 []= [89])),.int .i64 (F.rules.length:Nat),.int .i64 (n:Nat)].toArray 157 (0,0)))∧(Tg wI bI 9 r.length (.slice M r.length O) (r.map str))∧(aK 0= .pointer (some ⟨H.rb,0,none⟩))∧(aK 1= .slice M r.length O)∧(aK 4= .pointer (some ⟨G,0,none⟩))∧(aK 102= .int .i64 (n:Nat))∧(aK 103= .int .i64 (i:Nat))∧(n - i=bL)) _ ⟨0,[],rows,ln,{V with v11:=bC},R,(by omega),ed.start,rfl,((by rw [List.append_nil]; exact hF11)),((by rw [List.append_nil]; exact hR11)),(⟨by simp only [List.length_append,List.length_singleton,List.length_nil]; omega,aj.sl,aj.row,aj.kd,aj.al⟩),hMw10,hb12,hT11,rfl,rfl,rfl,rfl,rfl,rfl⟩ ?_)
 rintro bL aK wI ⟨i,xs,aD,a0,E,R',hi,ax,hxl,bM,ae,aN,hMw,b8,aR,dr,ds,dy,dt,dv,rfl⟩
 refine fx 0 dr (fx 1 ds (fx 4 dy (fx 102 dt (fx 103 dv (sq (fun dV cE=>rg rfl (p (lt rfl rfl) (nl (tn (cE _ _ (sq (fun dW cF=>cd rfl (fun c0=> ?_) (fun c0=> ?_)))))))))))))
 refine aA (tn (cF _ _ (sq (fun dK cs=>au (sq (fun dL ct=> ?_))))))
 have ag:(fun w'=>Md (fun k=>k=H.rb) wI w') wI.drew:=(Md.refl _ _).drew
 refine bF (fun w'=>Md (fun k=>k=H.rb) wI w') rfl wide ag (hp 0 rfl (by kernel_rfl) (fun _ _=>ao (.pointer (some ⟨H.rb,0,none⟩)) rfl) ag (hp 1 rfl (by kernel_rfl) (fun _ _=>ao (.slice M r.length O) rfl) ag (hp 2 rfl (by kernel_rfl) (fun _ _=>aH bZ rfl rfl (by omega) (ak.ok (aR.bN.2) (bG (by omega)))) ag (hp 3 rfl (by kernel_rfl) (fun w' a=>ld bQ rfl (bE.get (i:=0) (aR.md a (ez ae.cells (by decide))).bN.2 (by omega))) ag (hp 4 rfl (by kernel_rfl) (fun _ _=>ao (.slice M r.length O) rfl) ag (hp 5 rfl (by kernel_rfl) (fun _ _=>aH bZ rfl rfl (by omega) (ak.ok (aR.bN.2) (bG (by omega)))) ag (hp 6 rfl (by kernel_rfl) (fun w' a=>ld bQ rfl (bE.get (i:=1) (aR.md a (ez ae.cells (by decide))).bN.2 (by omega))) ag ?_)))))))
 refine he 7 rfl (by kernel_rfl) (kY (L:= [str (r.getD 0 []),str (r.getD 1 [])]) fE rfl rfl rfl rfl fun cj w14 hb14 bP cn=> ?_)
 have hE14:Wk wI w14:=eW bP.md
 have hMw14:=hMw.trans (Wk.mw hE14)
 have bS:(fun w'=>Md (fun k=>k=H.rb) wI w') w14:=ag.trans' bP.md (fun _ _ h=>h.elim)
 refine ⟨bS,?_⟩
 refine lk 8 rfl (by kernel_rfl) rfl (bz oX (pU B H {F with a6:=F.a6++ [(⟨x,(if r.getD 0 []=bO then 2 else 1:Nat),(decide (r.getD 2 []= [89])),F.rules.length,n⟩:cX)],rules:=F.rules++xs} R' aD a0 seen [r.getD 0 [],r.getD 1 []] cj 2 _ _ w14 (ae.wk hE14) (Tg.qj cn rfl) rfl (by decide) (fun q bx=>(aN.row q bx).2.1)) rfl fun ej w15 cT=> ?_) (fun c w' s av I=>by
  obtain ⟨h1,h2⟩:=s
  have hm:=hMw14.trans (cK.rb (ae.wk hE14) h2)
  rcases h1 with ⟨rfl,h3⟩ | ⟨a1,aC,rest,rfl,h4,h3⟩
  exact ⟨_,_,o0 hx aB hnx aT (ax.ends (by omega)),h3,hm⟩
  exact ⟨_,_,o0 hx aB hnx aT (ax.other (by omega) h4),h3,hm⟩)
 obtain ⟨a1,aC,rest,rfl,ca,⟨ai,hR2⟩,hT15,hM15⟩:=cT
 obtain ⟨ci,m8,rfl⟩:=hT15.slice
 have hF2:=(bM.wk hE14).rb (ae.wk hE14) hM15
 have hMw2:=hMw14.trans (cK.rb (ae.wk hE14) hM15)
 have hrow:aC≠[]∧aC.length≤70000∧∀ x∈aC,x.length≤70000:=aN.row (a1,aC) (by simp)
 have hB2:=fO.k6 aN
 have hbl2:=aN.len
 simp only [List.length_cons,List.length_append] at hbl2
 have hT2:=(aR.wk hE14).md hM15 (ez (ae.wk hE14).cells (by decide))
 have hb2:=hM15.au (Wk.au hE14 b8) (fun h=>by have h1:=(ae.wk hE14).cells; rw [← h,Wk.au hE14 b8] at h1; cases h1)
 have bU:(fun w'=>Md (fun k=>k=H.rb) wI w') w15:=bS.trans' hM15 (fun _ _ h=>h)
 refine ⟨bU,?_⟩
 refine hp 9 rfl (by kernel_rfl) (fun _ _=>aw) bU (hn (by kernel_rfl) (tn (ct _ _ (sq (fun dM cu=> ?_)))))
 have aS:¬(E.dd.ownBlock=some H.rb):=cz hF2.dJ hR2.cells (by decide)
 have bw:¬(E.dd.ownBlock=some H.fb):=cz hF2.dJ hF2.cells (by decide)
 have c6:¬(E.dd.ownBlock=some G):=cz hF2.dJ hb2 (by decide)
 have J:(fun w'=>Md (fun k=>E.dd.ownBlock=some k) w15 w') w15.drew:=(Md.refl _ _).drew
 refine da (fun w'=>Md (fun k=>E.dd.ownBlock=some k) w15 w') 21 rfl wide J (bj 0 rfl (by kernel_rfl) (fun _=>ao (.pointer (some ⟨H.rb,0,none⟩)) rfl) (fun _=>J) (bj 1 rfl (by kernel_rfl) (fun _=>nc rfl) (fun _=>J) (bj 2 rfl (by kernel_rfl) (fun _=>fa dI rfl) (fun _=>J) (fq 3 rfl (by kernel_rfl) (fun w' a=>ld dx rfl (Md.ay a ((aQ hR2.cells).trans rfl) aS)) J (bj 4 rfl (by kernel_rfl) (fun _=>ao (.pointer (some ⟨H.rb,0,none⟩)) rfl) (fun _=>J) (bj 5 rfl (by kernel_rfl) (fun _=>nc rfl) (fun _=>J) (bj 6 rfl (by kernel_rfl) (fun _=>fa dI rfl) (fun _=>J) ?_)))))))
 refine fq 7 rfl (by kernel_rfl) (fun w' a=>ld dx rfl (Md.ay a ((aQ hR2.cells).trans rfl) aS)) J (bj 8 rfl (by kernel_rfl) (fun _=>nc rfl) (fun _=>J) (bj 9 rfl (by kernel_rfl) (fun _=>fa dz rfl) (fun _=>J) (bj 10 rfl (by kernel_rfl) (fun _=>fa jy rfl) (fun _=>J) (fq 11 rfl (by kernel_rfl) (fun w' a=>ld km rfl (Md.ay a ((aQ hF2.cells).trans rfl) bw)) J (bj 12 rfl (by kernel_rfl) (fun _=>ao (.pointer (some ⟨H.rb,0,none⟩)) rfl) (fun _=>J) (fq 13 rfl (by kernel_rfl) (fun w' a=>dp lQ rfl (rfl) (fun j hj=>a9.cC ⟨_,Md.au a hb2 c6⟩ j)) J (bj 14 rfl (by kernel_rfl) (fun _=>mv) (fun _=>J) ?_)))))))
 refine uk 15 rfl (by kernel_rfl) rfl (bz xY (E2 B H {F with a6:=F.a6++ [(⟨x,(if r.getD 0 []=bO then 2 else 1:Nat),(decide (r.getD 2 []= [89])),F.rules.length,n⟩:cX)],rules:=F.rules++xs} E ai rest a1 seen (⟨x,(if r.getD 0 []=bO then 2 else 1:Nat),(decide (r.getD 2 []= [89])),F.rules.length,n⟩:cX) aC B ci m8 w15.drew (hF2.wk (Md.refl _ _).drew) (hR2.wk (Md.refl _ _).drew) hB2 (by show (if r.getD 0 []=bO then 2 else 1)=1∨(if r.getD 0 []=bO then 2 else 1)=2; split <;> simp) (hT15.wk (Md.refl _ _).drew) hrow.2) rfl fun ei w129 cS=> ?_) (fun c w' s av I=>by obtain ⟨e,he,h,h2⟩:=s; exact ⟨_,_,o0 hx aB hnx aT (ax.bad (by omega) ca he),h,hMw2.trans (Wk.mw (eW h2))⟩)
 obtain ⟨q,bx,hql,⟨vn,rfl,b3⟩,hE129⟩:=cS
 obtain ⟨aL,aM,rfl⟩:=b3.slice
 have hE129:=eW hE129
 have bV:(fun w'=>Md (fun k=>E.dd.ownBlock=some k) w15 w') w129:=Md.mono hE129 (fun _ _ h=>h.elim)
 refine ⟨bV,?_⟩
 refine fM 16 rfl (by kernel_rfl) (kp n8 rfl rfl rfl fun dX w130 d2 bm cl=> ?_)
 have hE130:=hE129.trans bm.md
 have hF4:=hF2.wk hE130
 have hR4:=hR2.wk hE130
 have hT4:=hT2.wk hE130
 have hb4x:=Wk.au hE130 hb2
 have hTq4:=b3.wk bm.md
 have hsz4:=(Array.getElem?_eq_some_iff.1 hR4.cells).1
 have bW:(fun w'=>Md (fun k=>E.dd.ownBlock=some k) w15 w') w130:=bV.trans' bm.md (fun _ _ h=>h.elim)
 refine ⟨bW,?_⟩
 refine fM 17 rfl (by kernel_rfl) (ap n8 (hF4.dJ) rfl (by omega) rfl (ak.ea cl) (rfl) (rfl) (by simp only [List.length_append]; omega) (by simp only [List.length_append]; omega) fun bA w131 b4 am ee d6=> ?_)
 have hMw5:=(hMw2.trans (Wk.mw hE130)).trans (Mw.of am (TF.own hF4.dJ (by decide)) (fun k hk=>(cU hF4.dJ hk).1))
 have hR5x:=bg.own hR4 hF4.dJ am (by decide)
 have hc5:=am.au hF4.cells (cz hF4.dJ hF4.cells (by decide))
 have hb5:=am.au hb4x (cz hF4.dJ hb4x (by decide))
 have hT5:=hT4.md am (fc hF4.dJ (by decide))
 have c8:World.ownsRow w131 B 155 7 bA ((F.rules++xs)++ [q]).length (eL (((F.rules++xs)++ [q]).zip (E.rn++ [.slice aL q.next.length aM]))):=by
  have dG:(F.rules++xs).length=E.rn.length:=by have :=hF4.nx.1; rw [List.length_map] at this; exact this.symm
  rw [List.zip_append dG,show eL ((F.rules++xs).zip E.rn++ [q].zip [.slice aL q.next.length aM])=eL ((F.rules++xs).zip E.rn)++fY (q,.slice aL q.next.length aM) from by simp [eL],List.length_append]
  exact b4
 have aW:(fun w'=>Md (fun k=>E.dd.ownBlock=some k) w15 w') w131:=bW.trans' am (fun _ _ h=>h)
 refine ⟨aW,?_⟩
 refine bj 18 rfl (by kernel_rfl) (fun _=>nc rfl) (fun _=>aW) (bj 19 rfl (by kernel_rfl) (fun _=>fa dz rfl) (fun _=>aW) (bj 20 rfl (by kernel_rfl) (fun _=>fa jy rfl) (fun _=>aW) (bJ 21 rfl (by kernel_rfl) (by kernel_rfl) (c4 sH rfl rfl (v:=bA) (dA b4) hc5 (by show _ < 14; omega) fun w9 hM9 bh=> ?_))))
 have hF6:=bB.xE (x:=q) (vx:= .slice aL q.next.length aM) hF4 hTq4 am c8 hM9 bh
 have hR6:=bg.nz hR5x hc5 hM9
 have hb6x:=hM9.au hb5 (fun h=>by rw [h,hc5] at hb5; cases hb5)
 have hT6:=hT5.md hM9 (ez hc5 (by decide))
 have hMw6:=hMw5.trans (Mw.of hM9 (TF.eq (cW hc5) (by decide)) (fun k hk=>hk ▸ hF4.lo.1))
 refine c9 (by kernel_rfl) ?_
 refine tn (cu _ _ ?_)
 have ab:(fun w'=>Md (fun k=>ai.vn.ownBlock=some k) w9 w') w9.drew:=(Md.refl _ _).drew
 refine da (fun w'=>Md (fun k=>ai.vn.ownBlock=some k) w9 w') 13 rfl wide ab (bj 0 rfl (by kernel_rfl) (fun _=>ao (.pointer (some ⟨H.rb,0,none⟩)) rfl) (fun _=>ab) (bj 1 rfl (by kernel_rfl) (fun _=>ao (.pointer (some ⟨H.rb,0,none⟩)) rfl) (fun _=>ab) (bj 2 rfl (by kernel_rfl) (fun _=>nc rfl) (fun _=>ab) (bj 3 rfl (by kernel_rfl) (fun _=>fa pL rfl) (fun _=>ab) (fq 4 rfl (by kernel_rfl) (fun w' a=>ld rf rfl (Md.ay a ((aQ hR6.cells).trans rfl) (cz hR6.on hR6.cells (by decide)))) ab (bj 5 rfl (by kernel_rfl) (fun _=>ao (.pointer (some ⟨H.rb,0,none⟩)) rfl) (fun _=>ab) (bj 6 rfl (by kernel_rfl) (fun _=>nc rfl) (fun _=>ab) ?_)))))))
 refine bj 7 rfl (by kernel_rfl) (fun _=>fa ma rfl) (fun _=>ab) (fq 8 rfl (by kernel_rfl) (fun w' a=>ld eu rfl (Md.ay a ((aQ hR6.cells).trans rfl) (cz hR6.on hR6.cells (by decide)))) ab (fM 9 rfl (by kernel_rfl) (gj n4 rfl rfl fun dY w144 d3 cN co=> ?_)))
 have hE144:=eW cN.md
 have hR7x:=hR6.wk hE144
 have hF7x:=hF6.wk hE144
 have hsz7:=(Array.getElem?_eq_some_iff.1 hR7x.cells).1
 have bY:(fun w'=>Md (fun k=>ai.vn.ownBlock=some k) w9 w') w144:=Md.mono hE144 (fun _ _ h=>h.elim)
 refine ⟨bY,?_⟩
 refine fM 10 rfl (by kernel_rfl) (ap n4 (hR7x.on) rfl (by omega) rfl (ak.ea co) (rfl) (rfl) (by simp only [List.length_append]; omega) (by simp only [List.length_append]; omega) fun a2 w145 b5 an ef d7=> ?_)
 have hMw7x:=(hMw6.trans (Wk.mw hE144)).trans (Mw.of an (TF.own hR7x.on (by decide)) (fun k hk=>(cU hR7x.on hk).1))
 have b2:TF w144 [5] (fun k=>ai.vn.ownBlock=some k):=TF.own hR7x.on (by decide)
 have hF8x:=hF7x.md an b2 (by decide) (fun h=>by obtain ⟨f,hf,_⟩:=hF7x.cm; exact b2.no (bX hf) (by decide) h)
 have hc8:=an.au hR7x.cells (cz hR7x.on hR7x.cells (by decide))
 have hb8x:=an.au (Wk.au hE144 hb6x) (cz hR7x.on (Wk.au hE144 hb6x) (by decide))
 have hT8y:=(hT6.wk hE144).md an (fc hR7x.on (by decide))
 have dc:World.ownsRow w145 B 3 1 a2 ((F.rules++xs)++ [q]).length (((F.rules++xs)++ [q]).map fun r=>Value.int .i64 (r.line:Nat)):=by
  rw [List.map_append,List.length_append]
  show World.ownsRow w145 B 3 1 a2 _ (_++ [Value.int .i64 (q.line:Nat)])
  rw [hql]
  exact b5
 have br:(fun w'=>Md (fun k=>ai.vn.ownBlock=some k) w9 w') w145:=bY.trans' an (fun _ _ h=>h)
 refine ⟨br,?_⟩
 refine bj 11 rfl (by kernel_rfl) (fun _=>nc rfl) (fun _=>br) (bj 12 rfl (by kernel_rfl) (fun _=>fa pL rfl) (fun _=>br) (bJ 13 rfl (by kernel_rfl) (by kernel_rfl) (c4 Ak rfl rfl (v:=a2) (dA b5) hc8 (by show _ < 7; omega) fun w10 aO ck=> ?_)))
 have b1:TF w145 [94] (fun k=>k=H.rb):=TF.eq (cW hc8) (by decide)
 have hF9x:=hF8x.md aO b1 (by decide) (fun h=>by obtain ⟨f,hf,_⟩:=hF8x.cm; exact b1.no (bX hf) (by decide) h)
 refine c9 (by kernel_rfl) ?_
 exact bn (tn (cs _ _ (rg rfl (p (ad rfl rfl (bp (by omega))) (p mv (nl (tn (⟨_,by omega,i+1,xs++ [q],rest,a1,{E with dd:=bA,rn:=E.rn++ [.slice aL q.next.length aM]},{ai with vn:=a2},(by omega),((by rw [show n - (i+1)=n - i - 1 by omega]; exact ax.step (by omega) ca bx)),((by rw [List.length_append,hxl]; rfl)),((by rw [← List.append_assoc]; exact hF9x)),((by rw [← List.append_assoc]; exact bg.DJ (q:=q) hR7x an dc aO ck rfl (fun _=>rfl))),(⟨by simp only [List.length_append,List.length_singleton]; omega,hB2.sl,hB2.row,hB2.kd,hB2.al⟩),((hMw7x.trans (Mw.of aO (TF.eq (cW hc8) (by decide)) (fun k hk=>hk ▸ hR7x.lo.1)))),((aO.au hb8x (fun h=>by rw [h,hc8] at hb8x; cases hb8x))),((hT8y.md aO (ez hc8 (by decide)))),rfl,rfl,rfl,rfl,rfl,rfl⟩))))))))
 refine ext (te _ (te _ (be (eR ?_))))
 refine f0 rfl ?_
 rw [show n - i=0 by omega] at ax
 exact ⟨rfl,_,aD,a0,zo hx aB hnx aT ax.done,⟨E,R',bM,ae,aN⟩,hMw⟩
end Go.Hb.j9
end
section
set_option maxRecDepth 20000
set_option maxHeartbeats 1000000
namespace Go.Hb.lO
open Go.Hb.cJ
open Go.Proofs
open Go.Hb.eM Go.Hb.fg Go.Hb.jk Go.Hb.fF Go.Hb.jl Go.Hb.j9 Go.Hb.ib Go.Hb.gX Go.Hb.ke Go.Hb.fH Go.Hb.kP Go.Hb.lP Go.Hb.gx Go.Hb.fQ
def ni:cX:=⟨0,0,false,0,0⟩
theorem Bt {x:Nat} :∀ {cs:List cX} {i:Nat},cs.findIdx? (fun c=>decide (c.flag=x))=some i→∃ c,cs[i]? =some c∧dy cs x=some c:=by
 intro cs
 induction cs with
 | nil=>intro i h; simp at h
 | cons a l ih=>
   intro i h
   rw [List.findIdx?_cons] at h
   unfold dy
   rw [List.find?_cons]
   by_cases hx:a.flag=x
   · simp only [hx,decide_true,if_true] at h ⊢
     cases h
     exact ⟨a,rfl,rfl⟩
   · simp only [hx,decide_false] at h ⊢
     simp only [Bool.false_eq_true,if_false,Option.map_eq_some_iff] at h
     obtain ⟨j,hj,rfl⟩:=h
     obtain ⟨c,h1,h2⟩:=ih hj
     exact ⟨c,by simpa using h1,h2⟩
theorem DV {F:aG} {x:Nat} (h:x=F.sp.getD 0 0):g8 F x=true :=by unfold g8; rw [decide_eq_true h]; rfl
theorem DW {F:aG} {x:Nat} (h:(dy F.a6 x).isSome=true) (hk:((dy F.a6 x).getD ni).kind=2):g8 F x=true :=by
 unfold g8
 obtain ⟨c,hc⟩:=Option.isSome_iff_exists.1 h
 rw [hc] at hk ⊢
 simp only [Option.getD_some] at hk
 simp [hk]
theorem ql {F:aG} {x:Nat} (h0:x≠F.sp.getD 0 0) (h:(dy F.a6 x).isSome=true) (hk:((dy F.a6 x).getD ni).kind≠2):g8 F x=false :=by
 unfold g8
 obtain ⟨c,hc⟩:=Option.isSome_iff_exists.1 h
 rw [hc] at hk ⊢
 simp only [Option.getD_some] at hk
 rw [decide_eq_false h0]
 simp [hk]
theorem qm {F:aG} {x:Nat} (h0:x≠F.sp.getD 0 0) (h:(dy F.a6 x).isSome=false):g8 F x=false :=by
 unfold g8
 rw [decide_eq_false h0]
 cases hc:dy F.a6 x with
 | none=>rfl
 | some c=>rw [hc] at h; cases h
theorem kX {F:aG} {q:eI} {j:Nat} (hj:j < q.next.length) (h:g8 F (q.next.getD j 0)=false):iM F q=true :=by
 unfold iM
 rw [List.any_eq_true]
 exact ⟨_,du hj,by rw [h]; rfl⟩
theorem xI {F:aG} {q:eI} (h:∀ j,j < q.next.length→g8 F (q.next.getD j 0)=true):iM F q=false :=by
 unfold iM
 rw [List.any_eq_false]
 intro x hx
 obtain ⟨j,hj,rfl⟩:=mi 0 hx
 rw [h j hj]; simp
theorem la {p:eI→Bool} {q:eI} :∀ {l:List eI} {i:Nat},(∀ j c,j < i→l[j]? =some c→p c=false)→l[i]? =some q→p q=true→l.find? p=some q:=by
 intro l
 induction l with
 | nil=>intro i _ h; simp at h
 | cons a l ih=>
   intro i s hi hp
   rw [List.find?_cons]
   cases i with
   | zero=>simp only [List.getElem?_cons_zero,Option.some.injEq] at hi; subst hi; rw [hp]
   | succ i=>
     rw [s 0 a (by omega) rfl]
     exact ih (i:=i) (fun j c hj A=>s (j+1) c (by omega) (by simpa using A)) (by simpa using hi) hp
theorem Bw {p:eI→Bool} {l:List eI} (h:∀ j a,j < l.length→l[j]? =some a→p a=false):l.find? p=none:=by
 rw [List.find?_eq_none]
 intro q c
 obtain ⟨j,hj⟩:=List.getElem?_of_mem c
 rw [h j q (List.getElem?_eq_some_iff.1 hj).1 hj]; simp
theorem Bv {x:Nat} {cs:List cX} (h:cs.findIdx? (fun c=>decide (c.flag=x))=none):dy cs x=none:=by
 rw [List.findIdx?_eq_none_iff] at h
 unfold dy
 rw [List.find?_eq_none]
 intro c hc
 simpa using h c hc
theorem s6 (B fb mc:Nat) (F:aG) (V:c5) (x:Nat) (w:World) (q:bB w B fb mc F V) (aD:F.a6.length≤70000):
 aT Tryz.prog 67 (List.toArray [aU fb,az x]) w (fun v w'=>v= .tuple #[.agg (jt ((dy F.a6 x).getD ni)).toArray,.bool (dy F.a6 x).isSome]∧Wk w w'):=by
 obtain ⟨ac,gl,I⟩:=dw q.dZ
 have ho11:=q.dZ
 rw [I] at ho11
 have an:Hb.ay w.heap fb 11=some (.slice ac F.a6.length gl):=by rw [← I]; exact (aQ q.cells).trans rfl
 obtain ⟨f,hf,aq⟩:=q.cm
 obtain ⟨iv,ob,ar,au,E⟩:∃ (iv:Nat) (ob:Bool),(f (az x)).getD (.int .i64 0)=U iv∧(f (az x)).isSome=ob∧((ob=false∧dy F.a6 x=none)∨(ob=true∧∃ c,F.a6[iv]? =some c∧dy F.a6 x=some c)):=by
  rw [aq x]
  cases hfi:F.a6.findIdx? (fun c=>decide (c.flag=x)) with
  | none=>exact ⟨0,false,rfl,rfl,.inl ⟨rfl,Bv hfi⟩⟩
  | some i=>exact ⟨i,true,rfl,rfl,.inr ⟨rfl,Bt hfi⟩⟩
 refine enter Tryz.func67 rfl Tryz.ntmps67 rfl ?_
 refine ab (fun _ J=>(e (al mK fun ax w4 aC a C=>ag (((J _ _ (sq (fun _ M=>sq (fun _ O=> ?_)))))))))
 refine rg rfl (ae (aU fb) (p (jv oe rfl rfl) (aj ((O _ _ (cf (rfl) (aA (tn (M _ _ ?_)))))))))
 refine ab (fun _ Y=>(ae (aU fb) (p (nc rfl) (p (fa tA rfl) (p (ld lS rfl (Wk.ay a.md ((aQ q.cells).trans rfl))) (ae (az x) (p (uv db jj kv (hf.wk a.md) rfl rfl (⟨_,rfl⟩) (ar) (au)) ?_)))))))
 refine p mv (p (xt rfl rfl) (p (xt rfl rfl) (p aw (ag (((Y _ _ (sq (fun _ Z=> ?_)))))))))
 refine ab (fun _ aa=>(p mv (p (no rfl) (aj ((aa _ _ (cb rfl (fun A=> ?_) (fun A=> ?_))))))))
 have av:ob=false :=by simpa using A
 have ap:dy F.a6 x=none:=by rcases E with ⟨_,h⟩ | ⟨h,_⟩; exact h; rw [av] at h; cases h
 refine ab (fun _ s=>(p (bT (ps:= []) (L:= [.int .u16 0,.int .i64 0,.bool false,.int .i64 0,.int .i64 0]) qF rfl (rfl)) (e (b0 k0 rfl rfl rfl rfl (C) (by simp) fun aF ai ad=>ag (((s _ _ (rt ?_))))))))
 exact tr (ef rfl (c7 (cs:=jt ni) rfl lQ rfl (fun j hj=>ad.cC j)) dD (⟨by rw [ap]; rfl,a.md.trans' ai (fun k hk h=>by omega)⟩))
 have hob1:ob=true :=by simpa using A
 obtain ⟨c,G,ao⟩:∃ c,F.a6[iv]? =some c∧dy F.a6 x=some c:=by rcases E with ⟨h,_⟩ | ⟨_,h⟩; rw [hob1] at h; cases h; exact h
 have hivl:=(List.getElem?_eq_some_iff.1 G).1
 have ho11x:=aE ho11 a.md
 refine aA (tn (Z _ _ (ab (fun _ s=>(ae (aU fb) (p (nc rfl) (p (fa dz rfl) (p (fa lh rfl) ?_))))))))
 refine p (ld mY rfl (Wk.ay a.md an)) (p mv (p (aH Bk rfl rfl (by omega) (ak.ok ((aB ho11x).2) (fun h=>by have :=congrArg List.length h; rw [show (g6 F.a6).length=F.a6.length*5 from jX (f:=jt) (m:=5) (fun _=>rfl) _] at this; simp at this; omega))) (p (dp lQ rfl (rfl) (im (f:=jt) (m:=5) (fun _=>rfl) (aB ho11x).2 G)) (e (b0 k0 rfl rfl rfl rfl (C) (by simp) fun aI am ah=>ag (((s _ _ ?_))))))))
 exact rt (ef rfl (c7 (cs:=jt c) rfl lQ rfl (fun j hj=>ah.cC j)) dD (⟨by rw [ao]; rfl,a.md.trans' am (fun k hk h=>by omega)⟩))
theorem zd (B:Nat) (H:bd) (F:aG) (rows:List Rw) (ln:Nat) (seen:List Tx) (w:World) (a9:St w B H F rows ln seen) (hnx:∀ q∈F.rules,q.next.length≤64):
 cM Tryz.prog 35 (List.toArray [.pointer (some ⟨H.rb,0,none⟩)]) w (fun v w'=>v= .tuple #[]∧F.rules.find? (iM F)=none∧(∃ V R' ah,bB w' B H.fb H.mc F V∧bg w' B H F R' rows ah seen)∧cK B H w w') (fun c w'=> ∃ q,F.rules.find? (iM F)=some q∧c=eB 25 q.line 118∧cK B H w w'):=by
 obtain ⟨V,R,G,ac,aN⟩:=a9
 obtain ⟨ai,g4,aD⟩:=dw G.dJ
 have ho12:=G.dJ
 rw [aD] at ho12
 have bb:Hb.ay w.heap H.fb 12=some (.slice ai F.rules.length g4):=by rw [← aD]; exact (aQ G.cells).trans rfl
 obtain ⟨vr,vs,vn⟩:=R
 obtain ⟨Z,cv,bH⟩:=dw ac.on
 obtain rfl :vn= .slice Z F.rules.length cv:=bH
 have hbl:=aN.len
 have hlo:=ac.lo
 refine e5 Tryz.func35 rfl Tryz.ntmps35 rfl ?_
 refine sq (fun bK aT=>rg rfl (p (ao (.pointer (some ⟨H.rb,0,none⟩)) rfl) (p (nc rfl) (p (fa dI rfl) (p (ld dx rfl ((aQ ac.cells).trans rfl)) (p (nc rfl) (p (fa dz rfl) ?_)))))))
 refine p (fa jy rfl) (p (ld km rfl (bb)) (p (bl oq rfl rfl) (p mv (nl (tn (aT _ _ (au (lp (fun M Y wI=> ∃ (i ah:Nat),(i≤F.rules.length)∧(∀ j q,j < i→F.rules[j]? =some q→iM F q=false)∧(bB wI B H.fb H.mc F V)∧(bg wI B H F ⟨vr,vs,.slice Z F.rules.length cv⟩ rows ah seen)∧(cK B H w wI)∧(Y 0= .pointer (some ⟨H.rb,0,none⟩))∧(Y 15= .slice ai F.rules.length g4)∧(Y 16= .int .i64 (F.rules.length:Nat))∧(Y 17= .int .i64 (i:Nat))∧(F.rules.length - i=M)) _ ⟨0,ln,(by omega),((fun j q hj=>by omega)),G,ac,(Md.refl _ _),rfl,rfl,rfl,rfl,rfl⟩ ?_))))))))
 rintro M Y wI ⟨i,ah,hi,C,ab,aq,hMw,bm,bq,br,bs,rfl⟩
 refine fx 0 bm (fx 15 bq (fx 16 br (fx 17 bs (sq (fun bQ aW=>rg rfl (p (lt rfl rfl) (nl (tn (aW _ _ (sq (fun bR aX=>cd rfl (fun hc18=> ?_) (fun hc18=> ?_))))))))))))
 refine aA (tn (aX _ _ (sq (fun bS aZ=>au (sq (fun bT a0=> ?_))))))
 have ho12I:=ab.dJ
 rw [aD] at ho12I
 have aI:i < F.rules.length:=by omega
 obtain ⟨vn,bF,av⟩:=bM.get ab.nx (i:=i) (by rw [List.length_map]; exact aI)
 obtain ⟨q,s⟩:∃ q,F.rules[i]? =some q:=⟨_,List.getElem?_eq_getElem aI⟩
 have bk:(F.rules.map (·.next)).getD i []=q.next:=by rw [List.getD_eq_getElem?_getD,List.getElem?_map,s]; rfl
 rw [bk] at av
 have hqnl:=hnx q (List.mem_of_getElem? s)
 obtain ⟨aj,am,rfl⟩:=av.slice
 have aJ:(F.rules.zip V.rn)[i]? =some (q,.slice aj q.next.length am):=by rw [List.getElem?_zip_eq_some]; exact ⟨s,bF⟩
 have aK:(eL (F.rules.zip V.rn)).length=(F.rules.zip V.rn).length*7:=jX (f:=fY) (m:=7) (fun _=>rfl) _
 have bi:(F.rules.map fun r=>Value.int .i64 (r.line:Nat))[i]? =some (.int .i64 (q.line:Nat)):=by rw [List.getElem?_map,s]; rfl
 refine rg rfl (p (ao (.int .i64 (i:Nat)) rfl) (p (aH pq rfl rfl (by omega) (ak.ok ((aB ho12I).2) (fun h=>by rw [h] at aK; have h2:0=(F.rules.zip V.rn).length*7:=aK; have h3:=(List.getElem?_eq_some_iff.1 aJ).1; omega))) ?_))
 refine p (dp oG rfl (rfl) (im (f:=fY) (m:=7) (fun _=>rfl) (aB ho12I).2 aJ)) (e (al qS fun bZ w3 b2 aF aP=> ?_))
 skip
 refine p (bw (.int .i64 (i:Nat)) rfl) (e (b0 o7 rfl rfl rfl rfl (aP) (by simp) fun wt2_5 a5 aO=> ?_))
 have aa:Wk wI wt2_5:=aF.md.trans' a5 (fun k hk h=>by omega)
 have hF3:=ab.wk aa
 have hR3:=aq.wk aa
 have hz3:=aF.size
 have hlr:=(Array.getElem?_eq_some_iff.1 aq.cells).1
 refine nl (tn (a0 _ _ (sq (fun bU a1=>rg rfl (p (ao (.pointer (some ⟨H.rb,0,none⟩)) rfl) (p (ao (.pointer (some ⟨H.rb,0,none⟩)) rfl) (p (nc rfl) (p (fa pL rfl) ?_))))))))
 refine p (ld rf rfl ((aQ hR3.cells).trans rfl)) (p (ao (.int .i64 (i:Nat)) rfl) (p (aH Bj rfl rfl (by omega) (ak.ok ((aB hR3.on).2) (by simp; intro h; rw [h] at s; simp at s))) (p (ld eu rfl (ak.gA (aB hR3.on).2 bi)) (p (nc rfl) (p (fa ma rfl) (e (c4 iR rfl rfl (v:= .int .i64 (q.line:Nat)) rfl hR3.cells (by show _ < 7; decide) fun w9 hM9 aS=> ?_)))))))
 have hR9:=hR3.bY (R':=⟨vr,vs,.slice Z F.rules.length cv⟩) (ln':=q.line) hM9 aS rfl hR3.rws hR3.rt
 have hF9:=hF3.rb hR3 hM9
 have hb9:=hM9.B aO (fun h=>by omega)
 have hT9:=(av.wk aa).md hM9 (ez hR3.cells (by decide))
 have hMw9:=(hMw.trans (Wk.mw aa)).trans (cK.rb hR3 hM9)
 refine nl (tn (a1 _ _ (sq (fun bV a2=>rg rfl (p (fa nD rfl) (p (ld gZ rfl ((hb9.ay 6).trans rfl)) (p (bl gV rfl rfl) (p mv ?_))))))))
 refine nl (tn (a2 _ _ (au (lp (fun M E J=> ∃ (j:Nat),(j≤q.next.length)∧(∀ U,U < j→g8 F (q.next.getD U 0)=true)∧(bB J B H.fb H.mc F V)∧(bg J B H F ⟨vr,vs,.slice Z F.rules.length cv⟩ rows q.line seen)∧(cK B H w J)∧(Tg J B 71 q.next.length (.slice aj q.next.length am) (q.next.map az))∧(E 0= .pointer (some ⟨H.rb,0,none⟩))∧(E 15= .slice ai F.rules.length g4)∧(E 16= .int .i64 (F.rules.length:Nat))∧(E 17= .int .i64 (i:Nat))∧(E 33= .slice aj q.next.length am)∧(E 34= .int .i64 (q.next.length:Nat))∧(E 35= .int .i64 (j:Nat))∧(q.next.length - j=M)) _ ⟨0,(by omega),((fun U bh=>by omega)),hF9,hR9,hMw9,hT9,rfl,rfl,rfl,rfl,rfl,rfl,rfl,rfl⟩ ?_))))
 rintro M E J ⟨j,hj,ax,an,ar,aE,ae,bt,bv,bx,bA,bC,bD,bE,rfl⟩
 refine fx 0 bt (fx 15 bv (fx 16 bx (fx 17 bA (fx 33 bC (fx 34 bD (fx 35 bE (sq (fun bW a3=>rg rfl (p (lt rfl rfl) (nl (tn (a3 _ _ (sq (fun bX a4=>cd rfl (fun bf=> ?_) (fun bf=> ?_)))))))))))))))
 refine aA (tn (a4 _ _ (sq (fun bL ap=>au (sq (fun bO aU=> ?_))))))
 have bI:(q.next.map az)[j]? =some (az (q.next.getD j 0)):=by rw [List.getElem?_map,List.getD_eq_getElem?_getD,List.getElem?_eq_getElem (by omega :j < q.next.length)]; rfl
 refine rg rfl (p (aH aY rfl rfl (by omega) (ak.ok (ae.bN.2) (bG (by omega)))) (p (ld ba rfl (ak.gA ae.bN.2 bI)) (p aw (nl (tn (aU _ _ (sq (fun bP aV=>rg rfl ?_))))))))
 refine p (ao (.pointer (some ⟨H.rb,0,none⟩)) rfl) (p (nc rfl) (p (fa dI rfl) (p (ld dx rfl ((aQ ar.cells).trans rfl)) (p mv (e (cl r9 (s6 B H.fb H.mc F V (q.next.getD j 0) _ an (by omega)) rfl fun b3 w45 a8=> ?_))))))
 obtain ⟨rfl,hE45⟩:=a8
 have hz45:=hE45.size
 refine p mv (p (xt rfl rfl) (p (xt rfl rfl) (e (al mK fun b1 w6 hb6 a7 hB6=>e (b0 k0 rfl rfl rfl rfl (hB6) (by simp) fun wt7_10 a6 aR=> ?_)))))
 have hE7:Wk J wt7_10:=(hE45.trans a7.md).trans' a6 (fun k hk h=>by omega)
 have hF7:=an.wk hE7
 have hR7:=ar.wk hE7
 have hMw7:=aE.trans (Wk.mw hE7)
 refine p aw (nl (tn (aV _ _ (rg rfl (p (ao (.pointer (some ⟨H.rb,0,none⟩)) rfl) (p mv (p (ao (.pointer (some ⟨H.rb,0,none⟩)) rfl) (p (nc rfl) ?_))))))))
 refine p (fa dI rfl) (p (ld dx rfl ((aQ hR7.cells).trans rfl)) (p (nc rfl) (p (fa dz rfl) (p (fa tz rfl) (p (iu oJ rfl rfl (by omega)) (p (ld ba rfl ((aQ hF7.cells).trans rfl)) (p (bo rfl rfl) ?_)))))))
 refine p mv (gs (t:=60) rfl (fun I=> ?_) (fun I=> ?_))
 refine sk rfl rfl rfl rfl (sk rfl rfl rfl rfl (lD rfl rfl rfl (lD rfl rfl rfl (lD rfl rfl rfl (sk rfl rfl rfl rfl (p (bu rfl) ?_))))))
 refine eP rfl (bz dN (dQ H.rb q.line _ 118 wt7_10 hR7.cy (by decide)) rfl fun aL w68 O=> ?_) (fun c w' a aM G=>by
  first
   | exact absurd a.2.1 (by decide)
   | exact ⟨q,la C s (kX (j:=j) (by omega) (ql (fun h=>I (by rw [h])) A (by have :=of_decide_eq_false a.2.1; omega))),a.1,by rw [a.2.2]; exact hMw7⟩
   | exact ⟨q,la C s (kX (j:=j) (by omega) (qm (fun h=>I (by rw [h])) (by simpa using A))),a.1,by rw [a.2.2]; exact hMw7⟩)
 obtain ⟨rfl,ag,rfl⟩:=O
 refine nl (bn (tn (ap _ _ (rg rfl (p (ad rfl rfl (bp (by omega))) (p mv (nl (tn ?_))))))))
 exact ⟨_,by omega,j+1,(by omega),((fun k hk=>by rcases Nat.lt_or_ge k j with h | h <;> first | exact ax k h | (rw [show k=j by omega]; exact DV (by omega)))),hF7,hR7,hMw7,(ae.wk hE7),rfl,rfl,rfl,rfl,rfl,rfl,rfl,rfl⟩
 refine pg rfl rfl rfl mv (pg rfl rfl rfl mv (gb (t:=62) rfl (fun A=> ?_) (fun A=> ?_)))
 refine pg rfl rfl rfl (fa nE rfl) (pg rfl rfl rfl (ld eu rfl ((aR.ay 1).trans rfl)) (pg rfl rfl rfl (bo rfl rfl) (pg rfl rfl rfl (bu rfl) (p (bc rfl) ?_))))
 refine eP rfl (bz dN (dQ H.rb q.line _ 118 wt7_10 hR7.cy (by decide)) rfl fun aL w68 O=> ?_) (fun c w' a aM G=>by
  first
   | exact absurd a.2.1 (by decide)
   | exact ⟨q,la C s (kX (j:=j) (by omega) (ql (fun h=>I (by rw [h])) A (by have :=of_decide_eq_false a.2.1; omega))),a.1,by rw [a.2.2]; exact hMw7⟩
   | exact ⟨q,la C s (kX (j:=j) (by omega) (qm (fun h=>I (by rw [h])) (by simpa using A))),a.1,by rw [a.2.2]; exact hMw7⟩)
 obtain ⟨rfl,ag,rfl⟩:=O
 refine nl (bn (tn (ap _ _ (rg rfl (p (ad rfl rfl (bp (by omega))) (p mv (nl (tn ?_))))))))
 exact ⟨_,by omega,j+1,(by omega),((fun k hk=>by rcases Nat.lt_or_ge k j with h | h <;> first | exact ax k h | (rw [show k=j by omega]; exact DW A (by have :=of_decide_eq_true ag; omega)))),hF7,hR7,hMw7,(ae.wk hE7),rfl,rfl,rfl,rfl,rfl,rfl,rfl,rfl⟩
 refine sk rfl rfl rfl rfl (sk rfl rfl rfl rfl (sk rfl rfl rfl rfl (pg rfl rfl rfl (bc rfl) (p (bc rfl) ?_))))
 refine eP rfl (bz dN (dQ H.rb q.line _ 118 wt7_10 hR7.cy (by decide)) rfl fun aL w68 O=> ?_) (fun c w' a aM G=>by
  first
   | exact absurd a.2.1 (by decide)
   | exact ⟨q,la C s (kX (j:=j) (by omega) (ql (fun h=>I (by rw [h])) A (by have :=of_decide_eq_false a.2.1; omega))),a.1,by rw [a.2.2]; exact hMw7⟩
   | exact ⟨q,la C s (kX (j:=j) (by omega) (qm (fun h=>I (by rw [h])) (by simpa using A))),a.1,by rw [a.2.2]; exact hMw7⟩)
 obtain ⟨rfl,ag,rfl⟩:=O
 refine nl (bn (tn (ap _ _ (rg rfl (p (ad rfl rfl (bp (by omega))) (p mv (nl (tn ?_))))))))
 exact absurd ag (by decide)
 refine ext (te _ (te _ (be (bn (tn (aZ _ _ (rg rfl (p (ad rfl rfl (bp (by omega))) ?_))))))))
 exact p mv (nl (tn (⟨_,by omega,i+1,q.line,(by omega),((fun k bJ hk aC=>by rcases Nat.lt_or_ge k i with h | h <;> first | exact C k bJ h aC | (rw [show k=i by omega,s] at aC; cases aC; exact xI (fun U bh=>ax U (by omega))))),an,ar,aE,rfl,rfl,rfl,rfl,rfl⟩)))
 refine ext (te _ (te _ (be (eR ?_))))
 refine f0 rfl ?_
 exact ⟨rfl,Bw (fun j q hj bj=>C j q (by omega) bj),⟨V,_,_,ab,aq⟩,hMw⟩
end Go.Hb.lO
end
section
set_option maxRecDepth 20000
set_option maxHeartbeats 1000000
namespace Go.Hb.qU
open Go.Hb.cJ
open Go.Proofs
open Go.Hb.eM
theorem Ez (q s:Nat) (w:World):
 CallsD Tryz.prog 31 (List.toArray [.pointer (some ⟨q,0,none⟩),.pointer (some ⟨s,0,none⟩)]) .returning w (fun a u1 w'=> ∃ v,a= .returned v∧u1= .returning∧(fun w'=>Wk w w') w'):=by
 refine si (v:= .nilIface) Tryz.func31 rfl Tryz.ntmps31 rfl (fun c₀ cs hc=> .inr ⟨by simp [recoverD,hc],rfl,rfl⟩) ?_
 refine p (FN qa GN rfl) (p mv (p (xt rfl rfl) (p (xt rfl rfl) (e (al jM fun C G hb2 j hB2=>e (b0 fy rfl rfl rfl rfl (hB2) (by simp) fun I i E=>p aw (nl ?_)))))))
 refine tn (sq (fun A c=>rg rfl (p mv (nl (tn (c _ _ (cf (rfl) (aA ?_))))))))
 refine f0 rfl ?_
 exact j.md.trans' i (fun k hk h=>by omega)
theorem Ey (a c:Nat) (ln:Nat) (er:Int) (w:World) (h2:∃ v:Value,w.heap[a]? =some (.cells [v].toArray 22 (0,0))) (h3:∃ L:List Value,L.length=3∧w.heap[c]? =some (.cells L.toArray 25 (0,0))) (hne:a≠c):
 CallsD Tryz.prog 31 (List.toArray [.pointer (some ⟨a,0,none⟩),.pointer (some ⟨c,0,none⟩)]) (.panicking (eB 25 ln er)) w (fun M u1 w'=> ∃ v,M= .returned v∧u1=(.panicking [{v:= .iface 25 (.agg [.int .i64 1,.int .i64 (ln:Nat),.int .i64 er].toArray),recovered:=true}])∧(fun w'=>w'.heap[a]? =some (.cells [.pointer none].toArray 22 (0,0))∧w'.heap[c]? =some (.cells [.int .i64 1,.int .i64 (ln:Nat),.int .i64 er].toArray 25 (0,0))∧Md (fun k=>k=a∨k=c) w w') w'):=by
 obtain ⟨v2,h2⟩:=h2
 obtain ⟨G,Z,h3⟩:=h3
 have hl2:=(Array.getElem?_eq_some_iff.1 h2).1
 have hl3:=(Array.getElem?_eq_some_iff.1 h3).1
 refine si (v:= .iface 25 (.agg [.int .i64 1,.int .i64 (ln:Nat),.int .i64 er].toArray)) Tryz.func31 rfl Tryz.ntmps31 rfl (fun c₀ cs hc=> .inl (by simp [recoverD,hc,eB])) ?_
 refine p (FM qa rfl) (p mv (p (xt rfl rfl) (p (xt rfl rfl) (e (al jM fun J ad hb2 C hB2=>e (b0 fy rfl rfl rfl rfl (hB2) (by simp) fun i q O=> ?_))))))
 have V:a9 i.heap J [.int .i64 1,.int .i64 (ln:Nat),.int .i64 er]:=O
 refine p aw (nl (tn (sq (fun ac Y=>rg rfl (p mv (nl (tn (Y _ _ ?_))))))))
 refine ct (rfl) ?_
 have E:(fun w'=>Md (fun k=>k=a∨k=c) i w') i.drew:=(Md.refl _ _).drew
 refine bF (fun w'=>Md (fun k=>k=a∨k=c) i w') rfl wide E (hp 0 rfl (by kernel_rfl) (fun w' aa=>dp gz rfl (rfl) (fun j hj=>a9.cC (Md.B aa V (fun h=>by omega)) j)) E (he 1 rfl (by kernel_rfl) (c4 o8 rfl rfl (v:= .pointer none) rfl (q.au (Wk.au C.md h2) (fun h=>by omega)) (by show 0 < 1; decide) fun w5 s U=> ?_)))
 have I:(fun w'=>Md (fun k=>k=a∨k=c) i w') w5:=E.trans' s (fun _ _ h=> .inl h)
 refine ⟨I,?_⟩
 refine he 2 rfl (by kernel_rfl) (ga fy rfl rfl rfl rfl (s.au (q.au (Wk.au C.md h3) (fun h=>by omega)) (fun h=>hne h.symm)) (by rw [Z]; decide) fun w6 A hB6=> ?_)
 have ab:(fun w'=>Md (fun k=>k=a∨k=c) i w') w6:=I.trans' A (fun _ _ h=> .inr h)
 refine ⟨ab,?_⟩
 refine hn (by kernel_rfl) (f0 rfl ?_)
 have hx:G.take 0 ++ [Value.int .i64 1,.int .i64 (ln:Nat),.int .i64 er]++G.drop (0 +3)= [Value.int .i64 1,.int .i64 (ln:Nat),.int .i64 er]:=by rw [List.drop_eq_nil_of_le (by omega)]; rfl
 rw [hx] at hB6
 exact ⟨A.au U hne,hB6,(((C.md.mono fun _ _ h=>h.elim).trans' q (fun k hk h=>by omega)).trans' (eW s) (fun _ _ h=> .inl h)).trans' A (fun _ _ h=> .inr h)⟩
theorem u6 (a c:Nat) (w:World):(invoke (.fn (.func 31) #[aU a,aU c]) #[]).run Tryz.prog w= .ok (.enter 31 #[aU a,aU c]) w:=by
 have h:=yG #[aU a,aU c] w
 simp [invoke,h]
theorem nw {n:Nat} {D:List Deferred} {G:List Nat} {σ:Nat→Value} {t:Nat} (h:t < n):ev ⟨n,D,G,none⟩ σ (.tmp t)=σ t:=by
 show cond (Nat.blt t n) (σ t) undef=_
 rw [show Nat.blt t n=true from by simpa using h]; rfl
theorem ED {n:Nat} {G:List Nat} {fn:Func} {R:Value→World→Prop} {σ:Nat→Value} {w:World} {a c ln:Nat} {er:Int} (p:fn.results= #[.cell 2 22,.cell 3 25]) (hlt:3 < n) (q:σ 2= .pointer (some ⟨a,0,none⟩)) (s:σ 3= .pointer (some ⟨c,0,none⟩)) (h2:∃ v:Value,w.heap[a]? =some (.cells [v].toArray 22 (0,0))) (h3:∃ L:List Value,L.length=3∧w.heap[c]? =some (.cells L.toArray 25 (0,0))) (hne:a≠c)
 (i:∀ w',Md (fun k=>k=a∨k=c) w w'→R (.tuple #[.pointer none,.agg [.int .i64 1,.int .i64 (ln:Nat),.int .i64 er].toArray]) w'):qb ⟨n,[{target:= .fn (.func 31) #[.pointer (some ⟨a,0,none⟩),.pointer (some ⟨c,0,none⟩)],args:= #[]}],G,none⟩ (jO Tryz.prog fn R) (.panic (eB 25 ln er)) σ w:=by
 refine Bq (u6 a c w) (Ey a c ln er w h2 h3 hne) ?_
 rintro w' ⟨hc2,hc3,hm⟩
 exact ⟨_,nT p (hY (qw ((nw (by omega)).trans q) dx ((aQ hc2).trans rfl))) (hY (c7 (cs:= [.int .i64 1,.int .i64 (ln:Nat),.int .i64 er]) ((nw (by omega)).trans s) gz rfl (fun j _=>by rw [Nat.zero_add,aQ hc3]; simp))),i w' hm⟩
theorem EE {n:Nat} {G:List Nat} {fn:Func} {R:Value→World→Prop} {σ:Nat→Value} {w:World} {a c:Nat} {v:Value} {L:List Value} (q:fn.results= #[.cell 2 22,.cell 3 25]) (hlt:3 < n) (s:σ 2= .pointer (some ⟨a,0,none⟩)) (A:σ 3= .pointer (some ⟨c,0,none⟩)) (h2:w.heap[a]? =some (.cells [v].toArray 22 (0,0))) (h3:w.heap[c]? =some (.cells L.toArray 25 (0,0))) (i:L.length=3)
 (p:∀ w',Wk w w'→R (.tuple #[v,.agg L.toArray]) w'):qb ⟨n,[{target:= .fn (.func 31) #[.pointer (some ⟨a,0,none⟩),.pointer (some ⟨c,0,none⟩)],args:= #[]}],G,none⟩ (jO Tryz.prog fn R) .ret σ w:=by
 refine Bp (u6 a c w) (Ez a c w) ?_
 intro w' hm
 have hc2:=Wk.au hm h2
 have hc3:=Wk.au hm h3
 exact ⟨_,nT q (hY (qw ((nw (by omega)).trans s) dx ((aQ hc2).trans rfl))) (hY (c7 (cs:=L) ((nw (by omega)).trans A) gz i (fun j _=>by rw [Nat.zero_add,aQ hc3]; simp))),p w' hm⟩
end Go.Hb.qU
end
section
set_option maxRecDepth 20000
set_option maxHeartbeats 1000000
namespace Go.Hb.qV
open Go.Hb.cJ
open Go.Proofs
open Go.Hb.eM Go.Hb.fg Go.Hb.jk Go.Hb.fF Go.Hb.jl Go.Hb.j9 Go.Hb.jN Go.Hb.iG
theorem Ce (B:Nat) (H:bd) (F:aG) (rows:List Rw) (ln:Nat) (seen:List Tx) (r:List Tx) (i:Nat) (a:Option Addr) (c:Nat) (w:World) (j:St w B H F rows ln seen) (hT:Tg w i 9 r.length (.slice a r.length c) (r.map str)) (hrl:∀ x∈r,x.length≤70000) (hw:r.length=width (r.getD 0 [])) (s:fj F seen) (q:width (r.getD 0 [])=2→r.getD 0 []∉seen) (p:F.bH.length+F.aliases.length+F.a6.length+F.rules.length+rows.length < 70000) (hk:r.getD 0 []=eU):cM Tryz.prog 58 (List.toArray [.pointer (some ⟨H.rb,0,none⟩),.slice a r.length c]) w (eH B H seen (bh H.eof F seen rows ln r) w) (eG B H (bh H.eof F seen rows ln r) w):=by
 have h:=C2 B H F rows ln seen r i a c w j hT (by rw [hw,hk]; decide) hrl
 rw [show bh H.eof F seen rows ln r=gJ F seen rows ln r from by unfold bh; rw [hk]; rfl]
 exact h
theorem Cm (B:Nat) (H:bd) (F:aG) (rows:List Rw) (ln:Nat) (seen:List Tx) (r:List Tx) (i:Nat) (a:Option Addr) (c:Nat) (w:World) (j:St w B H F rows ln seen) (hT:Tg w i 9 r.length (.slice a r.length c) (r.map str)) (hrl:∀ x∈r,x.length≤70000) (hw:r.length=width (r.getD 0 [])) (s:fj F seen) (q:width (r.getD 0 [])=2→r.getD 0 []∉seen) (p:F.bH.length+F.aliases.length+F.a6.length+F.rules.length+rows.length < 70000) (hk:r.getD 0 []=eZ):cM Tryz.prog 59 (List.toArray [.pointer (some ⟨H.rb,0,none⟩),.slice a r.length c]) w (eH B H seen (bh H.eof F seen rows ln r) w) (eG B H (bh H.eof F seen rows ln r) w):=by
 have h:=za B H F rows ln seen r i a c w j hT (by rw [hw,hk]; decide) hrl
 rw [show bh H.eof F seen rows ln r=jH F rows ln r from by unfold bh; rw [hk]; rfl]
 exact h
theorem Co (B:Nat) (H:bd) (F:aG) (rows:List Rw) (ln:Nat) (seen:List Tx) (r:List Tx) (i:Nat) (a:Option Addr) (c:Nat) (w:World) (j:St w B H F rows ln seen) (hT:Tg w i 9 r.length (.slice a r.length c) (r.map str)) (hrl:∀ x∈r,x.length≤70000) (hw:r.length=width (r.getD 0 [])) (s:fj F seen) (q:width (r.getD 0 [])=2→r.getD 0 []∉seen) (p:F.bH.length+F.aliases.length+F.a6.length+F.rules.length+rows.length < 70000) (hk:r.getD 0 []=e9):cM Tryz.prog 60 (List.toArray [.pointer (some ⟨H.rb,0,none⟩),.slice a r.length c]) w (eH B H seen (bh H.eof F seen rows ln r) w) (eG B H (bh H.eof F seen rows ln r) w):=by
 have h:=F2 B H F rows ln seen r i a c w j hT (by rw [hw,hk]; decide) hrl
 rw [show bh H.eof F seen rows ln r=jJ F rows ln r from by unfold bh; rw [hk]; rfl]
 exact h
theorem Ci (B:Nat) (H:bd) (F:aG) (rows:List Rw) (ln:Nat) (seen:List Tx) (r:List Tx) (i:Nat) (a:Option Addr) (c:Nat) (w:World) (j:St w B H F rows ln seen) (hT:Tg w i 9 r.length (.slice a r.length c) (r.map str)) (hrl:∀ x∈r,x.length≤70000) (hw:r.length=width (r.getD 0 [])) (q:fj F seen) (p:width (r.getD 0 [])=2→r.getD 0 []∉seen) (s:F.bH.length+F.aliases.length+F.a6.length+F.rules.length+rows.length < 70000) (hk:r.getD 0 []=fp):cM Tryz.prog 61 (List.toArray [.pointer (some ⟨H.rb,0,none⟩),.slice a r.length c]) w (eH B H seen (bh H.eof F seen rows ln r) w) (eG B H (bh H.eof F seen rows ln r) w):=by
 have h:=mC B H F rows ln seen r i a c w j hT (by rw [hw,hk]; decide) hrl (by rw [hk]; decide) (q _ (by rw [hk]; decide) (p (by rw [hk]; decide)))
 rw [show bh H.eof F seen rows ln r=fZ F rows ln r from by unfold bh; rw [hk]; rfl]
 exact h
theorem Cf (B:Nat) (H:bd) (F:aG) (rows:List Rw) (ln:Nat) (seen:List Tx) (r:List Tx) (i:Nat) (a:Option Addr) (c:Nat) (w:World) (j:St w B H F rows ln seen) (hT:Tg w i 9 r.length (.slice a r.length c) (r.map str)) (hrl:∀ x∈r,x.length≤70000) (hw:r.length=width (r.getD 0 [])) (q:fj F seen) (p:width (r.getD 0 [])=2→r.getD 0 []∉seen) (s:F.bH.length+F.aliases.length+F.a6.length+F.rules.length+rows.length < 70000) (hk:r.getD 0 []=fA):cM Tryz.prog 61 (List.toArray [.pointer (some ⟨H.rb,0,none⟩),.slice a r.length c]) w (eH B H seen (bh H.eof F seen rows ln r) w) (eG B H (bh H.eof F seen rows ln r) w):=by
 have h:=mC B H F rows ln seen r i a c w j hT (by rw [hw,hk]; decide) hrl (by rw [hk]; decide) (q _ (by rw [hk]; decide) (p (by rw [hk]; decide)))
 rw [show bh H.eof F seen rows ln r=fZ F rows ln r from by unfold bh; rw [hk]; rfl]
 exact h
theorem Cg (B:Nat) (H:bd) (F:aG) (rows:List Rw) (ln:Nat) (seen:List Tx) (r:List Tx) (i:Nat) (a:Option Addr) (c:Nat) (w:World) (j:St w B H F rows ln seen) (hT:Tg w i 9 r.length (.slice a r.length c) (r.map str)) (hrl:∀ x∈r,x.length≤70000) (hw:r.length=width (r.getD 0 [])) (q:fj F seen) (p:width (r.getD 0 [])=2→r.getD 0 []∉seen) (s:F.bH.length+F.aliases.length+F.a6.length+F.rules.length+rows.length < 70000) (hk:r.getD 0 []=fL):cM Tryz.prog 61 (List.toArray [.pointer (some ⟨H.rb,0,none⟩),.slice a r.length c]) w (eH B H seen (bh H.eof F seen rows ln r) w) (eG B H (bh H.eof F seen rows ln r) w):=by
 have h:=mC B H F rows ln seen r i a c w j hT (by rw [hw,hk]; decide) hrl (by rw [hk]; decide) (q _ (by rw [hk]; decide) (p (by rw [hk]; decide)))
 rw [show bh H.eof F seen rows ln r=fZ F rows ln r from by unfold bh; rw [hk]; rfl]
 exact h
theorem Cd (B:Nat) (H:bd) (F:aG) (rows:List Rw) (ln:Nat) (seen:List Tx) (r:List Tx) (i:Nat) (a:Option Addr) (c:Nat) (w:World) (j:St w B H F rows ln seen) (hT:Tg w i 9 r.length (.slice a r.length c) (r.map str)) (hrl:∀ x∈r,x.length≤70000) (hw:r.length=width (r.getD 0 [])) (q:fj F seen) (p:width (r.getD 0 [])=2→r.getD 0 []∉seen) (s:F.bH.length+F.aliases.length+F.a6.length+F.rules.length+rows.length < 70000) (hk:r.getD 0 []=fT):cM Tryz.prog 61 (List.toArray [.pointer (some ⟨H.rb,0,none⟩),.slice a r.length c]) w (eH B H seen (bh H.eof F seen rows ln r) w) (eG B H (bh H.eof F seen rows ln r) w):=by
 have h:=mC B H F rows ln seen r i a c w j hT (by rw [hw,hk]; decide) hrl (by rw [hk]; decide) (q _ (by rw [hk]; decide) (p (by rw [hk]; decide)))
 rw [show bh H.eof F seen rows ln r=fZ F rows ln r from by unfold bh; rw [hk]; rfl]
 exact h
theorem Cj (B:Nat) (H:bd) (F:aG) (rows:List Rw) (ln:Nat) (seen:List Tx) (r:List Tx) (i:Nat) (a:Option Addr) (c:Nat) (w:World) (j:St w B H F rows ln seen) (hT:Tg w i 9 r.length (.slice a r.length c) (r.map str)) (hrl:∀ x∈r,x.length≤70000) (hw:r.length=width (r.getD 0 [])) (q:fj F seen) (p:width (r.getD 0 [])=2→r.getD 0 []∉seen) (s:F.bH.length+F.aliases.length+F.a6.length+F.rules.length+rows.length < 70000) (hk:r.getD 0 []=gr):cM Tryz.prog 61 (List.toArray [.pointer (some ⟨H.rb,0,none⟩),.slice a r.length c]) w (eH B H seen (bh H.eof F seen rows ln r) w) (eG B H (bh H.eof F seen rows ln r) w):=by
 have h:=mC B H F rows ln seen r i a c w j hT (by rw [hw,hk]; decide) hrl (by rw [hk]; decide) (q _ (by rw [hk]; decide) (p (by rw [hk]; decide)))
 rw [show bh H.eof F seen rows ln r=fZ F rows ln r from by unfold bh; rw [hk]; rfl]
 exact h
theorem Ch (B:Nat) (H:bd) (F:aG) (rows:List Rw) (ln:Nat) (seen:List Tx) (r:List Tx) (i:Nat) (a:Option Addr) (c:Nat) (w:World) (j:St w B H F rows ln seen) (hT:Tg w i 9 r.length (.slice a r.length c) (r.map str)) (hrl:∀ x∈r,x.length≤70000) (hw:r.length=width (r.getD 0 [])) (s:fj F seen) (q:width (r.getD 0 [])=2→r.getD 0 []∉seen) (p:F.bH.length+F.aliases.length+F.a6.length+F.rules.length+rows.length < 70000) (hk:r.getD 0 []=gI):cM Tryz.prog 62 (List.toArray [.pointer (some ⟨H.rb,0,none⟩),.slice a r.length c]) w (eH B H seen (bh H.eof F seen rows ln r) w) (eG B H (bh H.eof F seen rows ln r) w):=by
 have h:=C5 B H F rows ln seen r i a c w j hT (by rw [hw,hk]; decide) hrl
 rw [show bh H.eof F seen rows ln r=gK F rows ln r from by unfold bh; rw [hk]; rfl]
 exact h
theorem Cl (B:Nat) (H:bd) (F:aG) (rows:List Rw) (ln:Nat) (seen:List Tx) (r:List Tx) (i:Nat) (a:Option Addr) (c:Nat) (w:World) (j:St w B H F rows ln seen) (hT:Tg w i 9 r.length (.slice a r.length c) (r.map str)) (hrl:∀ x∈r,x.length≤70000) (hw:r.length=width (r.getD 0 [])) (s:fj F seen) (q:width (r.getD 0 [])=2→r.getD 0 []∉seen) (p:F.bH.length+F.aliases.length+F.a6.length+F.rules.length+rows.length < 70000) (hk:r.getD 0 []=e8):cM Tryz.prog 63 (List.toArray [.pointer (some ⟨H.rb,0,none⟩),.slice a r.length c]) w (eH B H seen (bh H.eof F seen rows ln r) w) (eG B H (bh H.eof F seen rows ln r) w):=by
 have h:=EM B H F rows ln seen r i a c w j hT (by rw [hw,hk]; decide) hrl
 rw [show bh H.eof F seen rows ln r=gM H.eof F rows ln r from by unfold bh; rw [hk]; rfl]
 exact h
theorem Cc (B:Nat) (H:bd) (F:aG) (rows:List Rw) (ln:Nat) (seen:List Tx) (r:List Tx) (i:Nat) (a:Option Addr) (c:Nat) (w:World) (j:St w B H F rows ln seen) (hT:Tg w i 9 r.length (.slice a r.length c) (r.map str)) (hrl:∀ x∈r,x.length≤70000) (hw:r.length=width (r.getD 0 [])) (s:fj F seen) (q:width (r.getD 0 [])=2→r.getD 0 []∉seen) (p:F.bH.length+F.aliases.length+F.a6.length+F.rules.length+rows.length < 70000) (hk:r.getD 0 []=eT):cM Tryz.prog 64 (List.toArray [.pointer (some ⟨H.rb,0,none⟩),.slice a r.length c]) w (eH B H seen (bh H.eof F seen rows ln r) w) (eG B H (bh H.eof F seen rows ln r) w):=by
 have h:=xm B H F rows ln seen r i a c w j hT (by rw [hw,hk]; decide) hrl
 rw [show bh H.eof F seen rows ln r=gh H.eof F seen rows ln r from by unfold bh; rw [hk]; rfl]
 exact h
theorem Ck (B:Nat) (H:bd) (F:aG) (rows:List Rw) (ln:Nat) (seen:List Tx) (r:List Tx) (i:Nat) (a:Option Addr) (c:Nat) (w:World) (j:St w B H F rows ln seen) (hT:Tg w i 9 r.length (.slice a r.length c) (r.map str)) (hrl:∀ x∈r,x.length≤70000) (hw:r.length=width (r.getD 0 [])) (s:fj F seen) (q:width (r.getD 0 [])=2→r.getD 0 []∉seen) (p:F.bH.length+F.aliases.length+F.a6.length+F.rules.length+rows.length < 70000) (hk:r.getD 0 []=eV):cM Tryz.prog 65 (List.toArray [.pointer (some ⟨H.rb,0,none⟩),.slice a r.length c]) w (eH B H seen (bh H.eof F seen rows ln r) w) (eG B H (bh H.eof F seen rows ln r) w):=by
 have h:=su B H F rows ln seen r i a c w j hT (by rw [hw,hk]; decide) hrl p
 rw [show bh H.eof F seen rows ln r=eN H.eof F rows ln r from by unfold bh; rw [hk]; rfl]
 exact h
theorem Cn (B:Nat) (H:bd) (F:aG) (rows:List Rw) (ln:Nat) (seen:List Tx) (r:List Tx) (i:Nat) (a:Option Addr) (c:Nat) (w:World) (j:St w B H F rows ln seen) (hT:Tg w i 9 r.length (.slice a r.length c) (r.map str)) (hrl:∀ x∈r,x.length≤70000) (hw:r.length=width (r.getD 0 [])) (s:fj F seen) (q:width (r.getD 0 [])=2→r.getD 0 []∉seen) (p:F.bH.length+F.aliases.length+F.a6.length+F.rules.length+rows.length < 70000) (hk:r.getD 0 []=bO):cM Tryz.prog 65 (List.toArray [.pointer (some ⟨H.rb,0,none⟩),.slice a r.length c]) w (eH B H seen (bh H.eof F seen rows ln r) w) (eG B H (bh H.eof F seen rows ln r) w):=by
 have h:=su B H F rows ln seen r i a c w j hT (by rw [hw,hk]; decide) hrl p
 rw [show bh H.eof F seen rows ln r=eN H.eof F rows ln r from by unfold bh; rw [hk]; rfl]
 exact h
theorem tT (B:Nat) (H:bd) (F:aG) (rows:List Rw) (ln:Nat) (seen:List Tx) (r:List Tx) (i:Nat) (a:Option Addr) (c:Nat) (w:World) (j:St w B H F rows ln seen) (hT:Tg w i 9 r.length (.slice a r.length c) (r.map str)) (hrl:∀ x∈r,x.length≤70000) (hw:r.length=width (r.getD 0 [])) (s:fj F seen) (q:width (r.getD 0 [])=2→r.getD 0 []∉seen) (p:F.bH.length+F.aliases.length+F.a6.length+F.rules.length+rows.length < 70000) {v:Value} (hv:dP (r.getD 0 [])=some v):∃ f:Nat,v= .agg [.int .i64 (width (r.getD 0 []):Nat),.func (.func f) #[] #[]].toArray∧aM Tryz.prog f∧cM Tryz.prog f (List.toArray [.pointer (some ⟨H.rb,0,none⟩),.slice a r.length c]) w (eH B H seen (bh H.eof F seen rows ln r) w) (eG B H (bh H.eof F seen rows ln r) w):=by
 unfold dP at hv
 by_cases hk:r.getD 0 []=bO
 · rw [if_pos hk] at hv; cases hv; exact ⟨_,by rw [hk]; rfl,r8,Cn B H F rows ln seen r i a c w j hT hrl hw s q p hk⟩
 · rw [if_neg hk] at hv; clear hk
   by_cases hk:r.getD 0 []=eV
   · rw [if_pos hk] at hv; cases hv; exact ⟨_,by rw [hk]; rfl,r8,Ck B H F rows ln seen r i a c w j hT hrl hw s q p hk⟩
   · rw [if_neg hk] at hv; clear hk
     by_cases hk:r.getD 0 []=eT
     · rw [if_pos hk] at hv; cases hv; exact ⟨_,by rw [hk]; rfl,yV,Cc B H F rows ln seen r i a c w j hT hrl hw s q p hk⟩
     · rw [if_neg hk] at hv; clear hk
       by_cases hk:r.getD 0 []=e8
       · rw [if_pos hk] at hv; cases hv; exact ⟨_,by rw [hk]; rfl,yU,Cl B H F rows ln seen r i a c w j hT hrl hw s q p hk⟩
       · rw [if_neg hk] at hv; clear hk
         by_cases hk:r.getD 0 []=gI
         · rw [if_pos hk] at hv; cases hv; exact ⟨_,by rw [hk]; rfl,yT,Ch B H F rows ln seen r i a c w j hT hrl hw s q p hk⟩
         · rw [if_neg hk] at hv; clear hk
           by_cases hk:r.getD 0 []=gr
           · rw [if_pos hk] at hv; cases hv; exact ⟨_,by rw [hk]; rfl,lX,Cj B H F rows ln seen r i a c w j hT hrl hw s q p hk⟩
           · rw [if_neg hk] at hv; clear hk
             by_cases hk:r.getD 0 []=fT
             · rw [if_pos hk] at hv; cases hv; exact ⟨_,by rw [hk]; rfl,lX,Cd B H F rows ln seen r i a c w j hT hrl hw s q p hk⟩
             · rw [if_neg hk] at hv; clear hk
               by_cases hk:r.getD 0 []=fL
               · rw [if_pos hk] at hv; cases hv; exact ⟨_,by rw [hk]; rfl,lX,Cg B H F rows ln seen r i a c w j hT hrl hw s q p hk⟩
               · rw [if_neg hk] at hv; clear hk
                 by_cases hk:r.getD 0 []=fA
                 · rw [if_pos hk] at hv; cases hv; exact ⟨_,by rw [hk]; rfl,lX,Cf B H F rows ln seen r i a c w j hT hrl hw s q p hk⟩
                 · rw [if_neg hk] at hv; clear hk
                   by_cases hk:r.getD 0 []=fp
                   · rw [if_pos hk] at hv; cases hv; exact ⟨_,by rw [hk]; rfl,lX,Ci B H F rows ln seen r i a c w j hT hrl hw s q p hk⟩
                   · rw [if_neg hk] at hv; clear hk
                     by_cases hk:r.getD 0 []=e9
                     · rw [if_pos hk] at hv; cases hv; exact ⟨_,by rw [hk]; rfl,yS,Co B H F rows ln seen r i a c w j hT hrl hw s q p hk⟩
                     · rw [if_neg hk] at hv; clear hk
                       by_cases hk:r.getD 0 []=eZ
                       · rw [if_pos hk] at hv; cases hv; exact ⟨_,by rw [hk]; rfl,yR,Cm B H F rows ln seen r i a c w j hT hrl hw s q p hk⟩
                       · rw [if_neg hk] at hv; clear hk
                         by_cases hk:r.getD 0 []=eU
                         · rw [if_pos hk] at hv; cases hv; exact ⟨_,by rw [hk]; rfl,yQ,Ce B H F rows ln seen r i a c w j hT hrl hw s q p hk⟩
                         · rw [if_neg hk] at hv; clear hk
                           cases hv
theorem tP {s:Tx} (hv:dP s=none):width s=0:=by
 unfold dP at hv
 by_cases J:s=bO
 · rw [if_pos J] at hv; cases hv
 · rw [if_neg J] at hv
   by_cases E:s=eV
   · rw [if_pos E] at hv; cases hv
   · rw [if_neg E] at hv
     by_cases a:s=eT
     · rw [if_pos a] at hv; cases hv
     · rw [if_neg a] at hv
       by_cases G:s=e8
       · rw [if_pos G] at hv; cases hv
       · rw [if_neg G] at hv
         by_cases q:s=gI
         · rw [if_pos q] at hv; cases hv
         · rw [if_neg q] at hv
           by_cases C:s=gr
           · rw [if_pos C] at hv; cases hv
           · rw [if_neg C] at hv
             by_cases c:s=fT
             · rw [if_pos c] at hv; cases hv
             · rw [if_neg c] at hv
               by_cases p:s=fL
               · rw [if_pos p] at hv; cases hv
               · rw [if_neg p] at hv
                 by_cases j:s=fA
                 · rw [if_pos j] at hv; cases hv
                 · rw [if_neg j] at hv
                   by_cases A:s=fp
                   · rw [if_pos A] at hv; cases hv
                   · rw [if_neg A] at hv
                     by_cases M:s=e9
                     · rw [if_pos M] at hv; cases hv
                     · rw [if_neg M] at hv
                       by_cases I:s=eZ
                       · rw [if_pos I] at hv; cases hv
                       · rw [if_neg I] at hv
                         by_cases i:s=eU
                         · rw [if_pos i] at hv; cases hv
                         · rw [if_neg i] at hv
                           unfold width dE; simp [i,I,M,A,j,p,c,C,q,G,a,E,J]
theorem pR (s:Tx):dP s=none∨∃ (wd f:Nat),dP s=some (Value.agg #[.int .i64 (wd:Nat),.func (.func f) #[] #[]])∧width s=wd∧wd≠0:=by
 by_cases a:s=bO
 · exact .inr ⟨4,65,by unfold dP; rw [if_pos a],by rw [a]; decide,by decide⟩
 by_cases c:s=eV
 · exact .inr ⟨4,65,by unfold dP; rw [if_neg a,if_pos c],by rw [c]; decide,by decide⟩
 by_cases i:s=eT
 · exact .inr ⟨2,64,by unfold dP; rw [if_neg a,if_neg c,if_pos i],by rw [i]; decide,by decide⟩
 by_cases j:s=e8
 · exact .inr ⟨2,63,by unfold dP; rw [if_neg a,if_neg c,if_neg i,if_pos j],by rw [j]; decide,by decide⟩
 by_cases p:s=gI
 · exact .inr ⟨2,62,by unfold dP; rw [if_neg a,if_neg c,if_neg i,if_neg j,if_pos p],by rw [p]; decide,by decide⟩
 by_cases q:s=gr
 · exact .inr ⟨2,61,by unfold dP; rw [if_neg a,if_neg c,if_neg i,if_neg j,if_neg p,if_pos q],by rw [q]; decide,by decide⟩
 by_cases A:s=fT
 · exact .inr ⟨2,61,by unfold dP; rw [if_neg a,if_neg c,if_neg i,if_neg j,if_neg p,if_neg q,if_pos A],by rw [A]; decide,by decide⟩
 by_cases C:s=fL
 · exact .inr ⟨2,61,by unfold dP; rw [if_neg a,if_neg c,if_neg i,if_neg j,if_neg p,if_neg q,if_neg A,if_pos C],by rw [C]; decide,by decide⟩
 by_cases E:s=fA
 · exact .inr ⟨2,61,by unfold dP; rw [if_neg a,if_neg c,if_neg i,if_neg j,if_neg p,if_neg q,if_neg A,if_neg C,if_pos E],by rw [E]; decide,by decide⟩
 by_cases G:s=fp
 · exact .inr ⟨2,61,by unfold dP; rw [if_neg a,if_neg c,if_neg i,if_neg j,if_neg p,if_neg q,if_neg A,if_neg C,if_neg E,if_pos G],by rw [G]; decide,by decide⟩
 by_cases I:s=e9
 · exact .inr ⟨2,60,by unfold dP; rw [if_neg a,if_neg c,if_neg i,if_neg j,if_neg p,if_neg q,if_neg A,if_neg C,if_neg E,if_neg G,if_pos I],by rw [I]; decide,by decide⟩
 by_cases J:s=eZ
 · exact .inr ⟨2,59,by unfold dP; rw [if_neg a,if_neg c,if_neg i,if_neg j,if_neg p,if_neg q,if_neg A,if_neg C,if_neg E,if_neg G,if_neg I,if_pos J],by rw [J]; decide,by decide⟩
 by_cases M:s=eU
 · exact .inr ⟨2,58,by unfold dP; rw [if_neg a,if_neg c,if_neg i,if_neg j,if_neg p,if_neg q,if_neg A,if_neg C,if_neg E,if_neg G,if_neg I,if_neg J,if_pos M],by rw [M]; decide,by decide⟩
 refine .inl ?_
 unfold dP
 rw [if_neg a,if_neg c,if_neg i,if_neg j,if_neg p,if_neg q,if_neg A,if_neg C,if_neg E,if_neg G,if_neg I,if_neg J,if_neg M]
end Go.Hb.qV
end
section
set_option maxRecDepth 20000
set_option maxHeartbeats 1000000
namespace Go.Hb.mN
open Go.Hb.cJ
open Go.Proofs
open Go.Hb.gx Go.Hb.fQ
theorem B7 {α:Type} {l:List α} {i:Nat} {d:α} (h:i < l.length):l.getD i d∈l:=by
 rw [List.getD_eq_getElem?_getD,List.getElem?_eq_getElem h]; exact List.getElem_mem h
def e4 (n:Nat) (ls:List (List UInt8)):List (Nat×List UInt8):=(ls.zipIdx n).map fun q=>(q.2,q.1)
theorem DQ (n:Nat) (l:List UInt8) (ls:List (List UInt8)):e4 n (l::ls)=(n,l)::e4 (n+1) ls:=by simp [e4,List.zipIdx_cons]
theorem DR (n:Nat):e4 n []= []:=rfl
theorem qg (n:Nat) (ls:List (List UInt8)):(e4 n ls).map Prod.snd=ls:=by
 unfold e4; rw [List.map_map]; exact List.zipIdx_map_fst n ls
theorem uK (n:Nat) (ls:List (List UInt8)):(e4 n ls).length=ls.length:=by simp [e4]
def nv (x:Nat×List UInt8):Array Value:= #[.int .i64 x.1,str x.2]
theorem qf {ls:List (List UInt8)} {n:Nat} {pre:List (Nat×List UInt8)} {x:Nat×List UInt8} {rest:List (Nat×List UInt8)} (h:e4 n ls=pre++x::rest):pre.length < ls.length∧x.1=n+pre.length∧ls=pre.map Prod.snd++x.2::rest.map Prod.snd:=by
 have h1:=congrArg List.length h
 rw [uK,List.length_append,List.length_cons] at h1
 have h2:=congrArg (List.map Prod.snd) h
 rw [qg,List.map_append,List.map_cons] at h2
 refine ⟨by omega,?_,h2⟩
 have h3:=congrArg (fun l=>l[pre.length]?) h
 simp only [e4,List.getElem?_map,List.getElem?_zipIdx,List.getElem?_append_right (Nat.le_refl _),Nat.sub_self,List.getElem?_cons_zero] at h3
 cases h4:ls[pre.length]? with
 | none=>rw [h4] at h3; cases h3
 | some q=>rw [h4] at h3; cases h3; rfl
theorem sU (s:List UInt8) (w:World):
 aT Tryz.prog 56 (List.toArray [str s]) w (fun v w'=> ∃ b,v= .func (.func 88) #[] #[aU b]∧w.heap.size≤b∧w'.heap[b]? =some (.cells [str s].toArray 9 (0,0))∧Wk w w'):=by
 refine enter Tryz.func56 rfl Tryz.ntmps56 rfl ?_
 refine ab (fun _ a=>(e (xU rfl rfl fun i w1 q j hB1=>ag (((a _ _ (ab (fun _ c=> ?_))))))))
 exact p Dx (ag (((c _ _ (rt (f1 rfl rfl (⟨i,rfl,by omega,hB1,j.md⟩)))))))
theorem AU (s:List UInt8) (b:Nat) (hs:s.length≤65536) (l:Nat) (a:List (Nat×List UInt8)→World→Prop) (w:World) (h0:a [] w) (an:∀ pre W,a pre W→W.heap[b]? =some (.cells [str s].toArray 9 (0,0))) (bF:∀ pre W1 A,a pre W1→Wk W1 A→a pre A) (hy:∀ pre x rest W1,(e4 1 (bC s))=pre++x::rest→a pre W1→YieldAt Fence.wide 0 Tryz.prog l (nv x) W1 fun e W'=>e= .returned (.bool true)∧a (pre++ [x]) W'):
 aT Tryz.prog 88 (List.toArray [.func (.yield l) #[] #[],aU b]) w (fun v w'=>a (e4 1 (bC s)) w'):=by
 have hb0:=an _ _ h0
 refine enter Tryz.func88 rfl Tryz.ntmps88 rfl ?_
 refine sq (fun _ G=>ab (fun _ J=>(p (ld bQ rfl ((aQ hb0).trans rfl)) (p (bV u9 rfl rfl) (p (gt rfl rfl) (aj ((J _ _ ?_))))))))
 refine cd rfl (fun h=>absurd h (by omega)) (fun hc10=> ?_)
 refine aA (tn (G _ _ (ab (fun _ M=>(p (ld bQ rfl ((aQ hb0).trans rfl)) (e (cl y2 (FW s kz _ (by omega) (by decide)) rfl fun dd w12 ai=> ?_)))))))
 obtain ⟨rfl,hE12⟩:=ai
 refine ag (((M _ _ (ab (fun _ O=>(ag (((O _ _ ?_)))))))))
 refine au (lp (fun C j wI=> ∃ (r:List UInt8) (pre:List (Nat×List UInt8)),(r.length≤s.length)∧((e4 1 (bC s))=pre++e4 (pre.length+1) (cR [] r))∧(a pre wI)∧(pre.length≤s.length)∧(j 0= .func (.yield l) #[] #[])∧(j 3=str r)∧(j 4=U (pre.length+1))∧(r.length=C)) _ ⟨mF s,[],(qI s),rfl,(bF _ _ _ h0 hE12),(Nat.zero_le _),rfl,rfl,(iv (by first | rfl | (rw [List.length_append]; rfl))),rfl⟩ ?_)
 rintro C j wI ⟨r,pre,ax,hx,E,hpl,aq,ar,av,rfl⟩
 refine fx 0 aq (fx 3 ar (fx 4 av (sq (fun _ V=>ab (fun _ Y=>(ae (str r) (p (lx rfl rfl) (aj ((Y _ _ ?_))))))))))
 refine cd rfl (fun i=> ?_) (fun i=> ?_)
 have q:(e4 1 (bC s))=pre++(pre.length+1,eO (gE 10 r))::e4 (pre.length+2) (cR [] (ij 10 r)):=by rw [hx,Dl i,DQ]
 have hrl:=Ab (c:=10) i
 have hal:=z7 10 r
 refine aA (tn (V _ _ (sq (fun _ Z=>au (ab (fun _ aa=>(ae (str r) (e (cl y3 (Ac r 10 _ (by omega)) rfl fun ay w19 ak=> ?_)))))))))
 obtain ⟨rfl,ad⟩:=ak
 refine p mv (p (xt rfl rfl) (p (xt rfl rfl) (p (xt rfl rfl) (p aw (p aw (p aw (nl ?_)))))))
 refine tn (aa _ _ (ab (fun _ ac=>(p mv (ag (((ac _ _ (sq (fun _ I=> ?_))))))))))
 refine ES ?_
 refine py rfl (ao (.func (.yield l) #[] #[]) rfl) ?_
 refine py rfl (ao (U (pre.length+1)) rfl) ?_
 refine py rfl mv ?_
 refine ey rfl (cl y4 (FY (gE 10 r) _ (by omega)) rfl fun az aB al=> ?_)
 obtain ⟨rfl,ah⟩:=al
 have hJ27:=bF _ _ _ E (Md.trans ad ah)
 refine GB rfl rfl (hy pre (pre.length+1,eO (gE 10 r)) _ _ q hJ27) (fun w28 am=> ?_)
 refine py rfl (no rfl) ?_
 refine DK ?_
 refine tn (I _ _ (cf (rfl) (aA (bn (tn (Z _ _ (rg rfl (ae (U (pre.length+1)) (p (a8 ((pre.length+2:Nat):Int) rfl rfl (aI (by omega) (by omega))) ?_)))))))))
 exact ag (((⟨_,by omega,ij 10 r,pre++ [(pre.length+1,eO (gE 10 r))],(by omega),((by rw [q,List.append_assoc,List.length_append]; rfl)),am,((by have h1:=qf q; have h2:=ky s; rw [List.length_append,List.length_singleton]; omega)),rfl,rfl,(iv (by first | rfl | (rw [List.length_append]; rfl))),rfl⟩)))
 refine ext (te _ (te _ (be (f0 rfl ?_))))
 show a (e4 1 (bC s)) wI
 have ap:r= []:=Decidable.of_not_not i
 rw [hx,ap,p8,DR,List.append_nil]
 exact E
theorem sT (s:List UInt8) (b:Nat) (hs:s.length≤65536):qX Tryz.prog 88 #[.pointer (some ⟨b,0,none⟩)] nv (e4 1 (bC s)) (fun W=>W.heap[b]? =some (.cells [str s].toArray 9 (0,0))):=
 fun l a W h0 c bF hy=>Calls.mono (AU s b hs l a W h0 c bF hy) fun e w' ⟨v,he,hj⟩=>⟨⟨v,he⟩,hj⟩
theorem vD (s:List UInt8) (w:World) (hs:s.length≤1048576):
 aT Tryz.prog 30 (List.toArray [str s]) w (fun v w'=>(∃ a,v= .tuple #[a,.int .i64 (if 65536 < s.length then 10 else 0)]∧(if 65536 < s.length then a= .slice none 0 0 else World.ownsRow w' w.heap.size 9 1 (a) ((bC s)).length (((bC s)).map str)))∧Wk w w'):=by
 refine sY [] Tryz.func30 rfl Tryz.ntmps30 rfl ?_
 refine dS ?_
 refine eD ?_
 refine rg rfl (p aw (p aw (nl (dY ?_))))
 refine dS ?_
 refine dS ?_
 refine eD ?_
 refine rg rfl (p (ao (str s) rfl) (p (bV u9 rfl rfl) (p (gt rfl rfl) (nl (dY ?_)))))
 refine eD ?_
 refine cd rfl (fun am=> ?_) (fun am=> ?_)
 refine sq (fun aq aj=>rg rfl (p aw (p aw (nl (tn (aj _ _ (rt (qv ?_))))))))
 refine sZ rfl rfl rfl ?_
 have hl:65536 < s.length:=by omega
 exact ⟨⟨.slice none 0 0,by show Value.tuple #[.slice none 0 0,.int .i64 10]=_; rw [if_pos hl],by rw [if_pos hl]⟩,Md.refl _ _⟩
 refine aA (dY ?_)
 refine dS ?_
 refine eD ?_
 refine rg rfl (e (fK GH fun ab w4 ax al ad=>nl (dY ?_)))
 refine dS ?_
 refine dS ?_
 refine eD ?_
 refine rg rfl (p (ao (str s) rfl) (e (cl r7 (sU s _) rfl fun v11 w11 hR11=> ?_)))
 obtain ⟨U,rfl,hb11,ac,ae⟩:=hR11
 have E:Wk w w11:=Md.trans al.md ae
 have hb4x:=ae.au ad
 have hb11l:=(Array.getElem?_eq_some_iff.1 ac).1
 have az:ab < w4.heap.size:=(Array.getElem?_eq_some_iff.1 ad).1
 have hl:s.length≤65536:=by omega
 refine nl (dY ?_)
 apply ve (nv) ((e4 1 (bC s))) (fun W=>W.heap[U]? =some (.cells [str s].toArray 9 (0,0))) (fun pre q=> ∃ v,q.heap[ab]? =some (.cells [v].toArray 48 (0,0))∧World.ownsRow q w11.heap.size 9 1 v pre.length ((pre.map Prod.snd).map str)∧q.heap[U]? =some (.cells [str s].toArray 9 (0,0))∧w11.heap.size≤q.heap.size∧Wk w q) rfl se (fun _=>rfl) (sT s U hl) (⟨.slice none 0 0,hb4x,World.ownsRow_nil _ _ _ _,ac,Nat.le_refl _,E⟩) (fun _ _ ⟨_,_,_,h,_⟩=>h) (fun pre A C F ⟨v,h1,h2,h3,h5,h4⟩ hm M=>⟨v,n9 h1 hm M,vF h2 hm M,n9 h3 hm M,Nat.le_trans h5 hm.size,vG h4 hm E.size M⟩)
 intro l x q K G
 exact rg rfl (p (bw (str x.2) rfl) (nl (tn (G))))
 intro l pre x rest q hx Y
 obtain ⟨v,O,j,Z,hsz,V⟩:=Y
 obtain ⟨hpl,aB,aC⟩:=qf hx
 have hll:=ky s
 have hsR:=(Array.getElem?_eq_some_iff.1 Z).1
 refine au (rg rfl (p (ld ki rfl ((aQ O).trans rfl)) (p mv (e (gj fE rfl rfl fun ar w16 hb16 i ag=> ?_)))))
 have ah:Wk w w16:=Md.trans V i.md
 have hb16:=i.md.au O
 refine e (ap fE (aE j i.md) rfl (Nat.le_trans hsz i.md.size) rfl (ak.ea ag) (rfl) (rfl) (by omega) (by omega) fun an w17 aa I aD ay=> ?_)
 have hE17:=Wk.own ah (aE j i.md) I E.size
 have hbt17:=I.au (i.md.au Z) (fun h=>by have :=cU (aE j i.md) h; omega)
 have hb17:=I.au hb16 (fun h=>cz (aE j i.md) hb16 (by decide) h)
 refine e (c4 Aj rfl rfl (dA aa) hb17 (by simp) fun w6 J hB6=> ?_)
 have ai:Wk w w6:=Md.trans' hE17 J (fun k hk h=>by omega)
 exact nl (bn (⟨(fi.wk i.md).trans ((fi.md I (mo (aE j i.md))).trans (fi.md J (fun k hk=>⟨_,_,_,hk ▸ hb17⟩))),an,hB6,bA (by rw [List.map_append,List.map_append,List.length_append]; exact aa) J (fun k hk h=>cz aa hb17 (by decide) (h ▸ hk)),J.au hbt17 (fun h=>by omega),Nat.le_trans hsz (Nat.le_trans i.md.size (Nat.le_trans I.size J.size)),ai⟩))
 intro D q av Y G
 obtain ⟨v,O,j,Z,hsz,V⟩:=Y
 have hlt:=(Array.getElem?_eq_some_iff.1 G).1
 refine dY ?_
 refine dS ?_
 refine eD ?_
 refine rg rfl (p (ld ki rfl ((aQ O).trans rfl)) (p aw (p aw (nl (dY ?_)))))
 refine qy ?_
 refine s0 rfl rfl rfl G ?_
 have hl:¬65536 < s.length:=by omega
 rw [qg,uK] at j
 exact ⟨⟨v,by show Value.tuple #[v,.int .i64 0]=_; rw [if_neg hl],by rw [if_neg hl]; exact fX (bA j (lu _ _ _) (fun k hk h=>by obtain ⟨c,e,z,h1⟩:=mo j k hk; rw [h,G] at h1; cases h1)) E.size⟩,Md.trans' V (lu _ _ _) (fun k hk h=>by have :=E.size; omega)⟩
end Go.Hb.mN
end
