/-
  Walks and plain laws that the law rests on, laid together. No conditions but those that each theorem names.
-/
import Derived.Test.YtkiemnnhcilhpaaGreatDoorMnDicFirst3
set_option linter.unusedVariables false
section
set_option maxRecDepth 20000
set_option maxHeartbeats 1000000
namespace Go.Hb.kP
open Go.Hb.cG
open Go.Proofs
open Go.Hb.fN
theorem sh {h:Array Obj} {b:Nat} {f:UInt8→Bool} (a:a9 h b (bT f)) (c:UInt8):Hb.aw h b (0 +((c.toNat / 64:Nat):Int).toNat*1)=some (.int .u64 (cj f (c.toNat / 64))):=by
 have hc:=UInt8.toNat_lt c
 rw [a.aw,show 0 +((c.toNat / 64:Nat):Int).toNat*1=c.toNat / 64 from by omega]; exact o4 f (by omega)
theorem zE {h:Array Obj} {b:Nat} {f:UInt8→Bool} {c:UInt8} (a:a9 h b ((bT f).set (0 +((c.toNat / 64:Nat):Int).toNat*1) (.int .u64 ((cj f (c.toNat / 64) ||| 2 ^ (c.toNat % 64):Nat):Int)))):a9 h b (bT (fun x=>f x || decide (x=c))):=by
 rw [show 0 +((c.toNat / 64:Nat):Int).toNat*1=c.toNat / 64 from by omega,zC] at a; exact a
theorem zD {f g:UInt8→Bool} (h:∀ b,f b=g b):bT f=bT g:=by rw [show f=g from funext h]
theorem Cx {l:List UInt8} {i:Nat} (h:i < l.length) (x:UInt8):(decide (x∈l.take i) || decide (x=l.getD i 0))=decide (x∈l.take (i+1)):=by
 rw [g3 l i 0 h,← Bool.decide_or]
 exact decide_eq_decide.2 (by rw [List.mem_append,List.mem_singleton])
theorem qm {w:World} {B e n cp i:Nat} {a:Option Addr} {l:List UInt8} (h:w.ownsRow B e 1 (.slice a n cp) n (U8 l)) (hi:i≤n) (hn:0 < n):w.ownsRow B e 1 (.slice a i cp) i (U8 (l.take i)):=by
 have ha:a≠none:=by
  rintro rfl
  rcases h.2 with ⟨_,h5⟩ | ⟨g,cap,cur,h4,_⟩
  · omega
  · simp at h4
 have :=uT h hi ha
 rw [Nat.mul_one] at this
 unfold U8 at*
 rwa [List.map_take]
theorem Eh {w:World} {B e n cp:Nat} {a:Option Addr} {xs:List Value} (h:w.ownsRow B e 1 (.slice a n cp) n xs) (hn:0 < n):∃ gg,a=some ⟨gg,0,none⟩:=by
 rcases h.2 with ⟨_,h5⟩ | ⟨g,cap,cur,h4,_⟩
 · omega
 · simp only [Value.slice.injEq] at h4; exact ⟨g,h4.1⟩
theorem Gf {w:World} {B e n cp j:Nat} {a:Option Addr} {l:List UInt8} (h:w.ownsRow B e 1 (.slice a n cp) n (U8 l)):aj w.heap (dd a cp j 1) (U8 (l.drop j)):=by
 have h2:=(aA h).2.drop (cap:=cp) (k:=j) (size:=1) (by have h1:=h.1; have h3:=(aA h).1; omega)
 rw [Nat.mul_one] at h2
 unfold U8 at*
 rwa [List.map_drop]
theorem qG {w:World} {B e n:Nat} {v:Value} {l:List UInt8} (h:w.ownsRow B e 1 v n (U8 l)):l.length=n:=by have :=h.1; rw [mW] at this; omega
theorem uZ (b:Nat) (c:UInt8) (f:UInt8→Bool) (w:World) (i:a9 w.heap b (bT f)):
 aK Tryz.prog 136 (List.toArray [aU b,.int .u8 c.toNat]) w (fun v w'=>v= .tuple #[]∧a9 w'.heap b (bT (fun x=>f x || decide (x=c)))∧Md (fun q=>q=b) w w'):=by
 have hc8:=UInt8.toNat_lt c
 refine enter Tryz.func136 rfl Tryz.ntmps136 rfl ?_
 have a:(fun w'=>Wk w w') w.drew:=(Md.refl _ _).drew
 refine c5 (fun w'=>Wk w w') 12 rfl wide a (aI 0 rfl (aU b) a (aI 1 rfl (.int .u8 c.toNat) a (a4 2 rfl (fun _=>shr rfl rfl (by decide) (vv c)) (fun _=>a) (a4 3 rfl (fun _=>nc rfl) (fun _=>a) (a4 4 rfl (fun _=>h8 kp rfl rfl (by omega)) (fun _=>a) (cK 5 rfl (fun w' s=>ld kS rfl (Wk.aw s (sh i c))) a (aI 6 rfl (.int .u8 c.toNat) a ?_)))))))
 refine a4 7 rfl (fun _=>m7 rfl rfl (rj c)) (fun _=>a) (a4 8 rfl (fun _=>shl rfl rfl (by omega) (Fo (by omega))) (fun _=>a) (a4 9 rfl (fun _=>rv rfl rfl (Ed (lM _ _) (Nat.pow_lt_pow_right (by decide) (by omega)))) (fun _=>a) (a4 10 rfl (fun _=>nc rfl) (fun _=>a) (a4 11 rfl (fun _=>h8 kp rfl rfl (by omega)) (fun _=>a) (bJ 12 rfl (by kernel_rfl) (by kernel_rfl) (st Ab rfl rfl (rfl) (a.B i) (by rw [nm]; omega) fun A p j=> ?_))))))
 have hB0:=zE j
 refine c4 (by kernel_rfl) ?_
 refine f0 rfl ?_
 exact ⟨rfl,hB0,Md.trans (Md.refl _ _).drew p⟩
theorem B8 (f:UInt8→Bool) (c:UInt8) (w:World):
 aK Tryz.prog 153 (List.toArray [.agg (bT (f)).toArray,.int .u8 c.toNat]) w (fun v w'=>v= .bool (f c)∧Wk w w'):=by
 have hc8:=UInt8.toNat_lt c
 refine enter Tryz.func153 rfl Tryz.ntmps153 rfl ?_
 refine aa (fun _ a=>(e (jm rfl fun q s hb2 j hB2=>ae (((a _ _ (aa (fun _ i=> ?_))))))))
 refine ab (.int .u8 c.toNat) (p (shr rfl rfl (by decide) (vv c)) (p (h8 kp rfl rfl (by omega)) (p (ld kS rfl (sh hB2 c)) (ab (.int .u8 c.toNat) (p (m7 rfl rfl (rj c)) (p (shr rfl rfl (by omega) (Fu _ (by omega))) (p (m7 rfl rfl (xv (Nat.lt_of_le_of_lt (Nat.div_le_self _ _) (lM _ _)))) ?_)))))))
 exact p (ba rfl rfl) (ae (((i _ _ (rt (f1 rfl rfl (⟨congrArg Value.bool (Gx f c),j.md⟩)))))))
theorem ql (f:UInt8→Bool) (w:World):
 aK Tryz.prog 135 (List.toArray [.agg (bT (f)).toArray]) w (fun v w'=>v= .agg (bT (fun x=> !f x)).toArray∧Wk w w'):=by
 refine enter Tryz.func135 rfl Tryz.ntmps135 rfl ?_
 refine aa (fun _ i=>(e (jm rfl fun C w1 G c hB1=>e (al kN fun E J hb2 a hB2=>ag ((i _ _ (aa (fun _ q=> ?_))))))))
 refine p (h8 kp rfl rfl (by omega)) (p (ld kS rfl ((a.md.B hB1).aw 0)) (p (nn rfl) (p (h8 kp rfl rfl (by omega)) (p (ld kS rfl ((a.md.B hB1).aw 1)) (p (nn rfl) (p (h8 kp rfl rfl (by omega)) (p (ld kS rfl ((a.md.B hB1).aw 2)) ?_)))))))
 refine p (nn rfl) (p (h8 kp rfl rfl (by omega)) (p (ld kS rfl ((a.md.B hB1).aw 3)) (p (nn rfl) (p (rr (ps:= [(0,.int .u64 (cj (fun x=> !f x) 0:Nat)),(1,.int .u64 (cj (fun x=> !f x) 1:Nat)),(2,.int .u64 (cj (fun x=> !f x) 2:Nat)),(3,.int .u64 (cj (fun x=> !f x) 3:Nat))]) (L:= [.int .u64 (cj (fun x=> !f x) 0:Nat),.int .u64 (cj (fun x=> !f x) 1:Nat),.int .u64 (cj (fun x=> !f x) 2:Nat),.int .u64 (cj (fun x=> !f x) 3:Nat)]) rm rfl (rfl)) (e (bC jr rfl (vs:=bT (fun x=> !f x)) rfl rfl rfl hB2 (by decide) fun w3 A s=>ag ((q _ _ ?_))))))))
 exact rt (l3 rfl (cW rfl fI rfl (fun j I=>by rw [Nat.zero_add]; exact s.aw j)) (⟨rfl,Md.trans' (Md.trans c.md a.md) A (fun k hk h=>by have :=c.md.size; omega)⟩))
theorem tI (f:UInt8→Bool) (c:UInt8) (ci:Int) (w:World) (a:(c.toNat:Int)=ci):aK Tryz.prog 153 (List.toArray [.agg (bT (f)).toArray,.int .u8 ci]) w (fun v w'=>v= .bool (f c)∧Wk w w'):=by
 subst a; exact B8 f c w
theorem rB (f:UInt8→Bool) (w:World):
 aK Tryz.prog 152 (List.toArray [.agg (bT (f)).toArray]) w (fun v w'=>World.ownsRow w' w.heap.size 5 1 (v) ((bytesOf f)).length (U8 ((bytesOf f)))∧Wk w w'):=by
 refine enter Tryz.func152 rfl Tryz.ntmps152 rfl ?_
 refine aa (fun _ O=>(e (jm rfl fun am w1 aD G hB1=>ae (((O _ _ (aa (fun _ V=> ?_))))))))
 refine ae (((V _ _ (sq (fun _ Y=>aa (fun _ Z=>(p mv (nl ?_))))))))
 refine tn (Z _ _ (au (lp (fun J E wI=> ∃ (i:Nat) (a:Value),(i≤256)∧(World.ownsRow wI w1.heap.size 5 1 (a) ((jn f i)).length (U8 ((jn f i))))∧(Wk w1 wI)∧(E 1=aU am)∧(E 3=a)∧(E 5=U i)∧(256 - i=J)) _ ⟨0,.slice none 0 0,(by omega),(World.ownsRow_nil _ _ _ _),(Md.refl _ _),rfl,rfl,rfl,rfl⟩ ?_)))
 rintro J E wI ⟨i,a,hi,C,q,av,ax,ay,rfl⟩
 refine fx 1 av (fx 3 ax (fx 5 ay ?_))
 have aC:Wk w wI:=Md.trans G.md q
 have hbl:=lW f i
 have hs1:=q.size
 refine aa (fun _ ac=>(p (lt rfl rfl) (ag ((ac _ _ (sq (fun _ ah=>cd rfl (fun aq=> ?_) (fun aq=> ?_))))))))
 refine az (tn (ah _ _ (sq (fun _ s=>au (aa (fun _ ai=>(ab (U i) (p (bA (U i) rfl) ?_))))))))
 refine ag ((ai _ _ (aa (fun _ al=>(p (da fI rfl (rfl) (fun j aH=>by rw [Nat.zero_add]; exact (q.B hB1).aw j)) (ab (U i) (p (iK u5 lJ rfl (qM (by omega))) (e (cl rP (tI f (UInt8.ofNat i) _ _ (vT i (by omega))) rfl fun v11 w11 hR11=> ?_)))))))))
 obtain ⟨rfl,c⟩:=hR11
 refine ag ((al _ _ (cb rfl (fun I=> ?_) (fun I=> ?_))))
 refine rg rfl (ab (a) (ab (U i) (p (iK u5 lJ rfl (qM (by omega))) (e (gh ij rfl rfl fun aB w15 aF A an=>e (ap ij (aE (aE C c) A.md) rfl (by have :=c.size; have :=A.md.size; omega) rfl (aj.dZ an) (rfl) (rfl) (by omega) (by omega) fun aA w16 M hM16 hz16 aG=> ?_))))))
 rw [← vT i (by omega)] at M
 have ho16x:=uR M
 have ao:Wk w1 w16:=Wk.own (Md.trans (Md.trans q c) A.md) (aE (aE C c) A.md) hM16 (Nat.le_refl _)
 refine p ak (nl (bn (tn (s _ _ (rg rfl (p (ad rfl rfl (bw (by omega))) (p mv (nl ?_))))))))
 exact tn (⟨_,by omega,i+1,aA,(by omega),((by rw [rA,if_pos I]; exact ho16x)),ao,rfl,rfl,rfl,rfl⟩)
 refine az (bn (tn (s _ _ (rg rfl (p (ad rfl rfl (bw (by omega))) (p mv (nl (tn ?_))))))))
 exact ⟨_,by omega,i+1,a,(by omega),((by rw [rA,if_neg (by rw [I]; exact Bool.noConfusion),List.append_nil]; exact aE C c)),(Md.trans q c),rfl,rfl,rfl,rfl⟩
 refine ext (te _ (te _ (be (tn (Y _ _ (aa (fun _ s=>(ab (a) ?_))))))))
 refine p (bA (a) rfl) (ag ((s _ _ (rt (f1 rfl rfl ?_)))))
 have ar:i=256:=by omega
 subst ar
 exact ⟨fV C G.md.size,Md.trans G.md q⟩
theorem zK (s:List UInt8) (w:World) (hs:s.length≤1048576):
 aK Tryz.prog 151 (List.toArray [str s]) w (fun v w'=>v= .agg (bT (fun x=>decide (x∈s))).toArray∧Wk w w'):=by
 refine enter Tryz.func151 rfl Tryz.ntmps151 rfl ?_
 refine aa (fun _ V=>(e (al kN fun A aF hb2 M hB2=>ag ((V _ _ (aa (fun _ Y=>(e (al kN fun c w3 aD O ak=> ?_)))))))))
 have am:a9 w3.heap c (bT (fun x=>decide (x∈s.take 0))):=by rw [show (fun x=>decide (x∈s.take 0))=(fun _:UInt8=>false) from funext fun x=>by simp,o5]; exact ak
 refine ag ((Y _ _ (sq (fun _ Z=>aa (fun _ ac=>(ab (str s) (p (bR u9 rfl rfl) (p mv ?_))))))))
 refine ag ((ac _ _ (au ?_)))
 have hb2l:=hB2.lt
 refine lp (fun C a wI=> ∃ (i:Nat),(i≤s.length)∧(a9 wI.heap c (bT (fun x=>decide (x∈s.take i))))∧(a9 wI.heap A [.int .u64 0,.int .u64 0,.int .u64 0,.int .u64 0])∧(Wk w wI)∧(a 0=str s)∧(a 2=aU A)∧(a 3=aU c)∧(a 6=U (s.length))∧(a 7=U i)∧(s.length - i=C)) _ ⟨0,(by omega),am,(O.md.B hB2),(Md.trans M.md O.md),rfl,rfl,rfl,rfl,rfl,rfl⟩ ?_
 rintro C a wI ⟨i,hi,E,G,I,av,ax,ay,aA,aB,rfl⟩
 refine fx 0 av (fx 2 ax (fx 3 ay (fx 6 aA (fx 7 aB (aa (fun _ ae=>(p (lt rfl rfl) (ag ((ae _ _ (sq (fun _ ah=>cd rfl (fun hc8=> ?_) (fun hc8=> ?_)))))))))))))
 refine az (tn (ah _ _ (sq (fun _ q=>au (aa (fun _ ai=>(ab (U i) (p (bA (U i) rfl) ?_))))))))
 refine ag ((ai _ _ (rg rfl (ab (str s) (ab (U i) (p (fp u9 rfl rfl (by omega)) (e (cl rL (uZ c (s.getD i 0) _ _ E) rfl fun aE w13 aq=> ?_))))))))
 obtain ⟨rfl,aj,J⟩:=aq
 have ao:Wk w w13:=Md.trans' I J (fun k hk h=>by have :=M.md.size; omega)
 refine nl (bn (tn (q _ _ (rg rfl (p (ad rfl rfl (bw (by omega))) (p mv (nl (tn ?_))))))))
 exact ⟨_,by omega,i+1,(by omega),((by rw [zD (fun x=>(Cx (show i < s.length by omega) x).symm)]; exact aj)),(J.B G (fun h=>by omega)),ao,rfl,rfl,rfl,rfl,rfl,rfl⟩
 refine ext (te _ (te _ (be (tn (Z _ _ (aa (fun _ q=>(p (da fI rfl (rfl) (fun j ar=>by rw [Nat.zero_add]; exact (E).aw j)) ?_))))))))
 refine e (bC jr rfl (vs:=bT (fun x=>decide (x∈s.take i))) rfl rfl rfl G (by decide) fun w7 ap an=>ag ((q _ _ (rt (l3 rfl (cW rfl fI rfl (fun j ar=>by rw [Nat.zero_add]; exact an.aw j)) ?_)))))
 have aC:s.take i=s:=List.take_of_length_le (by omega)
 rw [aC]
 exact ⟨rfl,Md.trans' I ap (fun k hk h=>by omega)⟩
theorem Cz (s:List UInt8) (c:UInt8) (w:World):
 aK Tryz.prog 149 (List.toArray [str s,.int .u8 c.toNat]) w (fun v w'=>v= .int .i64 (cD c s)∧Wk w w'):=by
 refine enter Tryz.func149 rfl Tryz.ntmps149 rfl ?_
 refine aa (fun _ a=>(ae (((a _ _ (aa (fun _ i=>(ab (str s) ?_))))))))
 exact ab (.int .u8 c.toNat) (e (cl rN (tR s c _) rfl fun j w7 hR7=>ae (((i _ _ (rt (f1 rfl rfl (hR7))))))))
theorem z3 (s pr:List UInt8) (w:World) (hs:s.length≤1099511627776) (C:pr.length≤1099511627776):
 aK Tryz.prog 174 (List.toArray [str s,str pr]) w (fun v w'=>v= .tuple #[str (dH s pr),.bool (decide (s.take pr.length=pr))]∧Wk w w'):=by
 refine enter Tryz.func174 rfl Tryz.ntmps174 rfl ?_
 refine aa (fun _ j=>(p ak (ae (((j _ _ (sq (fun _ q=>sq (fun _ A=> ?_)))))))))
 refine rg rfl (ab (str s) (ab (str pr) (e (cl rJ (tH s pr _ hs C) rfl fun E w8 hR8=> ?_))))
 obtain ⟨rfl,i⟩:=hR8
 refine p (no rfl) (ag ((A _ _ (cb rfl (fun c=> ?_) (fun c=> ?_)))))
 have hpp:¬s.take pr.length=pr:=by simpa using c
 refine aa (fun _ a=>(ab (str s) (p (bA (str s) rfl) (ae (((a _ _ (rt ?_))))))))
 exact tr (f2 rfl rfl rfl (⟨by unfold dH; rw [if_neg hpp,decide_eq_false hpp]; rfl,i⟩))
 have hpp:s.take pr.length=pr:=by simpa using c
 have hpl:=qp hpp
 refine az (tn (q _ _ (aa (fun _ a=>(ab (str s) (ab (str pr) (p (bR u9 rfl rfl) (p (jD u9 rfl rfl (by omega)) ?_))))))))
 exact p ak (ae (((a _ _ (rt (f2 rfl rfl rfl (⟨by unfold dH; rw [if_pos hpp,decide_eq_true hpp]; rfl,i⟩)))))))
theorem z4 (s pr:List UInt8) (w:World) (hs:s.length≤1099511627776) (j:pr.length≤1099511627776):
 aK Tryz.prog 150 (List.toArray [str s,str pr]) w (fun v w'=>v= .tuple #[str (dH s pr),.bool (decide (s.take pr.length=pr))]∧Wk w w'):=by
 refine enter Tryz.func150 rfl Tryz.ntmps150 rfl ?_
 refine aa (fun _ a=>(p ak (ae (((a _ _ (aa (fun _ c=> ?_))))))))
 refine ab (str s) (ab (str pr) (e (cl yx (z3 s pr _ hs j) rfl fun q w8 hR8=> ?_)))
 obtain ⟨rfl,i⟩:=hR8
 refine p (xt rfl rfl) (p (xt rfl rfl) (p ak (ae (((c _ _ (rt (f2 rfl rfl rfl ?_))))))))
 exact ⟨rfl,i⟩
theorem F4 (s pr:List UInt8):(dH s pr).length≤s.length:=by unfold dH; split <;> simp
def eo (s:List UInt8) (k:Nat):List UInt8:=(s.drop k).take ((s.drop k).idxOf 93)
theorem xI (s:List UInt8) (k:Nat):(eo s k).length≤s.length:=by unfold eo; rw [List.length_take,List.length_drop]; omega
theorem xH (s:List UInt8) (k:Nat):(s.take (k+(s.drop k).idxOf 93)).drop k=eo s k:=by
 rw [List.drop_take,Nat.add_sub_cancel_left]; rfl
def jS (s:List UInt8) (k:Nat):UInt8→Bool:=fun x=>if (eo s k).take 1= [94] then !decide (x∈dH (eo s k) [94]) else decide (x∈dH (eo s k) [94])
theorem xL {s:List UInt8} {k:Nat} (h:(eo s k).take [(94:UInt8)].length= [94]):jS s k=fun x=> !decide (x∈dH (eo s k) [94]):=by
 funext x; exact if_pos h
theorem xM {s:List UInt8} {k:Nat} (h:¬(eo s k).take [(94:UInt8)].length= [94]):jS s k=fun x=>decide (x∈dH (eo s k) [94]):=by
 funext x; exact if_neg h
theorem xJ (s:List UInt8) (k:Nat) (w:World) (hs:s.length≤1048576) (hk:k≤s.length):
 aK Tryz.prog 134 (List.toArray [str s,U k]) w (fun v w'=>(∃ f,v= .tuple #[.agg (bT f).toArray,.int .i64 (if cD 93 (s.drop k) < 0 then 0 else ((k+(s.drop k).idxOf 93 +1:Nat):Int)),.bool (!decide (cD 93 (s.drop k) < 0) && decide (dH (eo s k) [94]≠[]))]∧(¬cD 93 (s.drop k) < 0→f=jS s k))∧Wk w w'):=by
 refine enter Tryz.func134 rfl Tryz.ntmps134 rfl ?_
 refine aa (fun _ ad=>(e (al kN fun O w4 aN A q=>p ak (ae (((ad _ _ (sq (fun _ ah=> ?_)))))))))
 refine rg rfl (ab (str s) (ab (U k) (p (jD u9 rfl rfl (by omega)) (e (cl ye (Cz (s.drop k) 93 _) rfl fun aP w14 aC=> ?_)))))
 obtain ⟨rfl,hE14⟩:=aC
 have aO:(s.drop k).length=s.length - k:=List.length_drop
 refine ae (((ah _ _ (sq (fun _ ai=>aa (fun _ aj=>(p mv (p (lt rfl rfl) ?_))))))))
 refine ag ((aj _ _ (cd rfl (fun a=> ?_) (fun a=> ?_))))
 refine aa (fun _ C=>(p (rr (ps:= []) (L:= [.int .u64 0,.int .u64 0,.int .u64 0,.int .u64 0]) rm rfl (rfl)) (e (bC jr rfl (vs:=bT (fun _=>false)) (by rw [o5]; rfl) rfl rfl (hE14.B q) (by decide) fun w3 aA ao=>p ak (ae (((C _ _ ?_))))))))
 refine rt (tr (sU rfl (cW rfl fI rfl (fun j J=>by rw [Nat.zero_add]; exact ao.aw j)) dB dB ?_))
 refine ⟨⟨fun _=>false,by rw [if_pos a,decide_eq_true a]; rfl,fun h=>absurd a h⟩,Md.trans' (Md.trans A.md hE14) aA (fun k hk h=>by omega)⟩
 have hix:=lr (c:=93) (l:=s.drop k) a
 have hbl:(eo s k).length≤s.length:=xI s k
 refine az (tn (ai _ _ (sq (fun _ C=> ?_))))
 have hbe:=xH s k
 refine rg rfl (ab (str s) (ab (U k) (ab (U k) (p mv (p (a8 ((k+(s.drop k).idxOf 93:Nat):Int) rfl rfl (aH (by omega) (by omega))) (p (mE u9 rfl rfl rfl (by omega)) (e (cl yf (z4 ((s.take (k+(s.drop k).idxOf 93)).drop k) [94] _ (by rw [hbe]; omega) (by decide)) rfl fun aQ w25 ac=> ?_))))))))
 rw [hbe] at ac
 obtain ⟨rfl,hE25⟩:=ac
 have htl:=F4 (eo s k) [94]
 refine p mv (p (xt rfl rfl) (p (xt rfl rfl) (p ak (ae (((C _ _ (sq (fun _ am=> ?_)))))))))
 refine rg rfl (p mv (e (cl yg (zK (dH (eo s k) [94]) _ (by omega)) rfl fun aR w29 aD=> ?_)))
 obtain ⟨rfl,hE29⟩:=aD
 refine e (al kN fun M w10 hb10 Z an=> ?_)
 have av:Wk w w10:=Md.trans A.md (Md.trans hE14 (Md.trans hE25 (Md.trans hE29 Z.md)))
 have hB4x:=Z.md.B (hE29.B (hE25.B (hE14.B q)))
 have hb4l:=hB4x.lt
 refine e (bC jr rfl (vs:=bT (fun x=>decide (x∈dH (eo s k) [94]))) rfl rfl rfl an (by decide) fun w5 V G=> ?_)
 have hE5:Wk w w5:=Md.trans' av V (fun k hk h=>by have :=A.md.size; have :=hE14.size; have :=hE25.size; have :=hE29.size; omega)
 have hB4y:=V.B hB4x (fun h=>by have :=q.lt; have :=hE14.size; have :=hE25.size; have :=hE29.size; omega)
 refine ag ((am _ _ ?_))
 refine c6 (fun i wC=>(a9 wC.heap M (bT (jS s k)))∧(a9 wC.heap O [.int .u64 0,.int .u64 0,.int .u64 0,.int .u64 0])∧(Wk w wC)∧(i 0=str s)∧(i 1=U k)∧(i 4=aU O)∧(i 7= .int .i64 (cD 93 (s.drop k)))∧(i 8=str (dH (eo s k) [94]))∧(i 10=aU M)) ?_ ?_
 refine aa (fun _ E=>(p mv (ag ((E _ _ (cb rfl (fun I=> ?_) (fun I=> ?_)))))))
 refine rg rfl (p (da fI rfl (rfl) (fun j J=>by rw [Nat.zero_add]; exact (G).aw j)) (e (cl oO (ql (fun x=>decide (x∈dH (eo s k) [94])) _) rfl fun aS aT aE=> ?_)))
 obtain ⟨rfl,hE32⟩:=aE
 refine e (bC jr rfl (vs:=bT (fun x=> !decide (x∈dH (eo s k) [94]))) rfl rfl rfl (hE32.B G) (Nat.le_refl 4) fun w7 Y ap=> ?_)
 have hE7:Wk w w7:=Md.trans' (Md.trans hE5 hE32) Y (fun k hk h=>by have :=A.md.size; have :=hE14.size; have :=hE25.size; have :=hE29.size; omega)
 have hB4z:=Y.B (hE32.B hB4y) (fun h=>by have :=q.lt; have :=hE14.size; have :=hE25.size; have :=hE29.size; omega)
 exact ag ((⟨((by rw [xL (by simpa using I)]; exact ap)),hB4z,hE7,rfl,rfl,rfl,rfl,rfl,rfl⟩))
 exact az (tn (⟨((by rw [xM (by simpa using I)]; exact G)),hB4y,hE5,rfl,rfl,rfl,rfl,rfl,rfl⟩))
 rintro i wC ⟨ar,au,ay,aF,aG,aJ,aL,aM,aI⟩
 refine fx 0 aF (fx 1 aG (fx 4 aJ (fx 7 aL (fx 8 aM (fx 10 aI (aa (fun _ E=>(p (da fI rfl (rfl) (fun j J=>by rw [Nat.zero_add]; exact (ar).aw j)) (ab (U k) (ab (.int .i64 (cD 93 (s.drop k))) (p (a8 ((k+(s.drop k).idxOf 93:Nat):Int) rfl rfl (aH (by omega) (by omega))) (p (a8 ((k+(s.drop k).idxOf 93 +1:Nat):Int) rfl rfl (aH (by omega) (by omega))) ?_))))))))))))
 refine ab (str (dH (eo s k) [94])) (p (mo rfl rfl) (e (bC jr rfl (vs:=bT (jS s k)) rfl rfl rfl au (by decide) fun w8 aB aq=> ?_)))
 have ax:Wk w w8:=Md.trans' ay aB (fun k hk h=>by omega)
 refine p ak (ae (((E _ _ (rt (sU rfl (cW rfl fI rfl (fun j J=>by rw [Nat.zero_add]; exact aq.aw j)) dB dB ?_))))))
 refine ⟨⟨jS s k,by rw [if_neg a,decide_eq_false a]; rfl,fun _=>rfl⟩,ax⟩
theorem Cy (l:List UInt8) (a:Option Addr) (n c:Nat) (x:UInt8) (w:World) (hC:aj w.heap a (U8 l)) (hn:l.length=n) (aq:n≤1048576):
 aK Tryz.prog 154 (List.toArray [.slice a n c,.int .u8 x.toNat]) w (fun v w'=>v= .int .i64 (cD x l)∧Wk w w'):=by
 refine enter Tryz.func154 rfl Tryz.ntmps154 rfl ?_
 refine aa (fun _ I=>(ae (((I _ _ (sq (fun _ J=>aa (fun _ M=> ?_))))))))
 refine ab (.slice a n c) (p (bm jH rfl rfl) (p mv (ag ((M _ _ (au (lp (fun C q wI=> ∃ (i:Nat),(i≤n)∧(∀ j,j < i→l.getD j 0≠x)∧(wI=w)∧(q 0= .slice a n c)∧(q 1= .int .u8 x.toNat)∧(q 7=U n)∧(q 8=U i)∧(n - i=C)) _ ⟨0,(by omega),((fun j G=>by omega)),rfl,rfl,rfl,rfl,rfl,rfl⟩ ?_)))))))
 rintro C q wI ⟨i,hi,A,ah,al,am,an,ao,rfl⟩
 refine fx 0 al (fx 1 am (fx 7 an (fx 8 ao ?_)))
 subst ah
 refine aa (fun _ O=>(p (lt rfl rfl) (ag ((O _ _ (sq (fun _ V=>cd rfl (fun ai=> ?_) (fun ai=> ?_))))))))
 refine az (tn (V _ _ (sq (fun _ s=>au (aa (fun _ Y=>(ab (U i) (p (bA (U i) rfl) ?_))))))))
 refine ag ((Y _ _ (aa (fun _ Z=>(ab (.int .u8 x.toNat) (ab (.slice a n c) (ab (U i) (p (aG js rfl rfl (by omega) (aj.ok (hC) (ow (by omega)))) ?_))))))))
 refine p (ld m3 rfl (ov (i:=i) hC (by omega))) (p (ba rfl rfl) (ag ((Z _ _ (cd rfl (fun E=> ?_) (fun E=> ?_))))))
 have ap:l.getD i 0=x:=UInt8.toNat_inj.1 (by omega)
 refine aa (fun _ ac=>(ab (U i) (p (bA (U i) rfl) (ag ((ac _ _ (rt (br ?_))))))))
 exact tr (tr (br (tr (f1 rfl rfl (⟨by rw [CQ (show i < l.length by omega) A ap]; rfl,Md.refl _ _⟩)))))
 refine az (bn (tn (s _ _ (rg rfl (p (ad rfl rfl (bw (by omega))) (p mv (nl (tn ?_))))))))
 exact ⟨_,by omega,i+1,(by omega),((fun j G=>by rcases Nat.lt_or_ge j i with h | h <;> first | exact A j h | (rw [show j=i by omega]; exact fun h2=>E (by rw [h2])))),rfl,rfl,rfl,rfl,rfl,rfl⟩
 refine ext (te _ (te _ (be (tn (J _ _ (aa (fun _ s=>(p ak ?_))))))))
 exact ag ((s _ _ (rt (f1 rfl rfl (⟨by rw [CR (fun j G=>A j (by omega))]; rfl,Md.refl _ _⟩)))))
theorem Ao (l:List UInt8) (i j:Nat) (B n cp gg:Nat) (w:World) (c:World.ownsRow w B 5 1 (.slice (some ⟨gg,0,none⟩) n cp) n (U8 l)) (ad:i < j∧j≤n) (ah:n≤1048576):
 aK Tryz.prog 155 (List.toArray [.slice (some ⟨gg,0,none⟩) n cp,U i,U j]) w (fun v w'=>v= .slice (some ⟨gg,0,none⟩) (i+(n - j)) cp∧World.ownsRow w' B 5 1 (.slice (some ⟨gg,0,none⟩) (i+(n - j)) cp) (i+(n - j)) (U8 (l.take i++l.drop j))∧Md (fun q=>q=gg) w w'):=by
 have hln:=qG c
 have hcp:=(aA c).1
 refine enter Tryz.func155 rfl Tryz.ntmps155 rfl ?_
 refine aa (fun _ s=>(ae (((s _ _ (aa (fun _ A=>(ab (.slice (some ⟨gg,0,none⟩) n cp) ?_))))))))
 refine ab (U i) (ab (U j) (ab (.slice (some ⟨gg,0,none⟩) n cp) (p (bm jH rfl rfl) (p (Fz js rfl rfl rfl rfl (by omega)) (ag ((A _ _ (sq (fun _ C=> ?_)))))))))
 refine aa (fun _ E=>(ab (U i) (ab (U j) (p (ba rfl rfl) (ag ((E _ _ (cd rfl (fun h=>absurd h (by omega)) (fun ac=> ?_)))))))))
 refine az (tn (C _ _ (aa (fun _ G=>(ab (.slice (some ⟨gg,0,none⟩) n cp) (p (bm jH rfl rfl) (p ak (nl ?_))))))))
 refine tn (G _ _ (sq (fun _ I=> ?_)))
 have a:(fun w'=>Wk w w') w.drew:=(Md.refl _ _).drew
 refine c5 (fun w'=>Wk w w') 6 rfl wide a (aI 0 rfl (.slice (some ⟨gg,0,none⟩) n cp) a (aI 1 rfl (U i) a (a4 2 rfl (fun _=>kI js rfl rfl (by omega)) (fun _=>a) (aI 3 rfl (.slice (some ⟨gg,0,none⟩) n cp) a (aI 4 rfl (U j) a (a4 5 rfl (fun _=>mD js rfl rfl (by omega)) (fun _=>a) (bJ 6 rfl (by kernel_rfl) (by kernel_rfl) (xy (B:=B) (xs:=U8 (l.take i)) (news:=U8 (l.drop j)) (n:=i) (m:=n - j) ij (qm (aE c a) (by omega) (by omega)) rfl rfl (show aj _ (dd (some ⟨gg,0,none⟩) cp j 1) (U8 (l.drop j)) from Gf (aE c a)) (by unfold dd; split <;> simp) (by rw [mW,List.length_drop]; omega) (xb _) (by omega) fun w26 O Y=> ?_))))))))
 refine a4 7 rfl (fun _=>ak) (fun h=>Bool.noConfusion ((show true =_ from by kernel_rfl).trans h)) (c4 (by kernel_rfl) ?_)
 refine tn (I _ _ (aa (fun _ J=>(ab (.slice (some ⟨gg,0,none⟩) (i+(n - j)) cp) (ab (.slice (some ⟨gg,0,none⟩) (i+(n - j)) cp) (p (bm jH rfl rfl) (p mv (p (FA js rfl rfl rfl (by omega)) ?_))))))))
 refine e (zy jH GS rfl Y (by simp) rfl (by omega) fun w6 V Z=>ag ((J _ _ (aa (fun _ M=>(ab (.slice (some ⟨gg,0,none⟩) (i+(n - j)) cp) (p (bA (.slice (some ⟨gg,0,none⟩) (i+(n - j)) cp) rfl) (nl ?_))))))))
 exact tn (M _ _ (rt (f1 rfl rfl (⟨rfl,by rw [mV]; exact Z,Md.trans (a.mono (fun _ _ h=>h.elim)) (Md.trans O (V.mono (fun q _ h=>by simpa [Value.ownBlock] using h.symm)))⟩))))
end Go.Hb.kP
end
section
set_option maxRecDepth 20000
set_option maxHeartbeats 1000000
namespace Go.Hb.lQ
open Go.Hb.cG
open Go.Proofs
open Go.Hb.fN Go.Hb.kP
theorem ry {s:List UInt8} {k:Nat} (h:(s.drop k).idxOf 93 < (s.drop k).length):dH (eo s k) [94]≠[]↔(s.drop k).idxOf 93≠0∧¬((s.drop k).idxOf 93=1∧(s.drop k).getD 0 0=94):=by
 unfold eo dH
 generalize hl:s.drop k=l at*
 cases l with
 | nil=>simp at h
 | cons b r=>
   generalize hm:(b::r).idxOf 93=m at*
   cases m with
   | zero=>simp
   | succ m=>
     simp only [List.length_cons] at h
     simp only [List.take_succ_cons,List.length_singleton,List.take_zero,List.getD_cons_zero,List.drop_succ_cons,List.drop_zero]
     by_cases hb:b=94
     · subst hb
       rw [if_pos rfl]
       cases m with
       | zero=>simp
       | succ m=>
         cases r with
         | nil=>simp at h
         | cons x r=>simp
     · rw [if_neg (by simpa using hb)]
       simp [hb]
theorem xN {s:List UInt8} {k:Nat} (h:(s.drop k).idxOf 93 < (s.drop k).length) (h0:(s.drop k).idxOf 93≠0):jS s k=ec (91::(s.drop k).take ((s.drop k).idxOf 93 +1)):=by
 funext x
 unfold jS eo dH ec
 generalize hl:s.drop k=l at*
 cases l with
 | nil=>simp at h
 | cons b r=>
   generalize hm:(b::r).idxOf 93=m at*
   cases m with
   | zero=>exact absurd rfl h0
   | succ m=>
     simp only [List.length_cons] at h
     have hln:(91::List.take (m+1 +1) (b::r)).length=m+3:=by simp only [List.length_cons,List.length_take]; omega
     rw [hln,if_neg (show ¬m+3=1 by omega)]
     have a:(91::List.take (m+1 +1) (b::r)).getD 1 0=b:=rfl
     have c:List.take (m+3 - 1) (91::List.take (m+1 +1) (b::r))=91::List.take (m+1) (b::r):=by
      show List.take (m+2) (91::List.take (m+2) (b::r))=_
      rw [List.take_succ_cons,List.take_take,Nat.min_eq_left (by omega)]
     rw [a,c]
     simp only [List.take_succ_cons,List.take_zero,List.drop_succ_cons,List.drop_zero,List.length_singleton]
     by_cases hb:b=94
     · subst hb; simp
     · simp [hb]
theorem AF:(fun x:UInt8=> !(fun _:UInt8=>false) x)=ec [46]:=by funext x; simp [ec]
theorem Ea {c:UInt8} (h:c≠46):(fun x:UInt8=>(fun _:UInt8=>false) x || decide (x=c))=ec [c]:=by
 funext x
 simp only [ec,List.length_singleton,if_true,Bool.false_or,List.getD_cons_zero]
 exact decide_eq_decide.2 ⟨fun h1=> .inr h1.symm,fun h1=>(h1.resolve_left h).symm⟩
theorem zB {ps:List (List UInt8)} (h:0 < ps.length):gw ps≠[]:=td (f:=fun t=>bT (ec t)) (m:=4) (fun _=>rfl) (by decide) h
theorem zA {h:Array Obj} {a:Option Addr} {ps:List (List UInt8)} {i:Nat} (hc:aj h a (gw ps)) (hi:i < ps.length):∀ j,j < 4→Hb.aw h (bk a) (fo a+i*4 +j)=(bT (ec (ps.getD i [])))[j]? :=by
 have :=iP (f:=fun t=>bT (ec t)) (m:=4) (fun _=>rfl) hc (List.getElem?_eq_getElem hi)
 rw [List.getD_eq_getElem?_getD,List.getElem?_eq_getElem hi]; exact this
theorem tW {b:UInt8} (h:(b.toNat:Int)=91):b=91:=UInt8.toNat_inj.1 (by have :(91:UInt8).toNat=91:=rfl; omega)
theorem qe {b:UInt8} (h:¬(b.toNat:Int)=91):b≠91:=by rintro rfl; exact h rfl
theorem tV {b:UInt8} (h:(b.toNat:Int)=46):b=46:=UInt8.toNat_inj.1 (by have :(46:UInt8).toNat=46:=rfl; omega)
theorem uL {b:UInt8} (h:¬(b.toNat:Int)=46):b≠46:=by rintro rfl; exact h rfl
theorem uS {w:World} {B:Nat} {v:Value} {l:List (List UInt8)} {x:List UInt8} (h:w.ownsRow B 227 4 v (l.length+1) (gw l++bT (ec x))):w.ownsRow B 227 4 v (l++ [x]).length (gw (l++ [x])):=by
 rw [List.length_append,zz]; simpa [gw] using h
theorem Ap (l:List UInt8) (i j:Nat) (a c:Int) (B n cp gg:Nat) (w:World) (p:World.ownsRow w B 5 1 (.slice (some ⟨gg,0,none⟩) n cp) n (U8 l)) (s:i < j∧j≤n) (C:n≤1048576) (hi:a=(i:Nat)) (A:c=(j:Nat)):
 aK Tryz.prog 155 (List.toArray [.slice (some ⟨gg,0,none⟩) n cp,.int .i64 a,.int .i64 c]) w (fun v w'=>v= .slice (some ⟨gg,0,none⟩) (i+(n - j)) cp∧World.ownsRow w' B 5 1 (.slice (some ⟨gg,0,none⟩) (i+(n - j)) cp) (i+(n - j)) (U8 (l.take i++l.drop j))∧Md (fun q=>q=gg) w w'):=by
 subst hi A; exact Ao l i j B n cp gg w p s C
theorem Ft (f:UInt8→Bool) (w:World):
 aK Tryz.prog 137 (List.toArray [.agg (bT (f)).toArray]) w (fun v w'=>v=str (gK f)∧Wk w w'):=by
 have hbl:(bytesOf f).length≤256:=lW f 256
 have bf:(bytesOf (fun x=> !f x)).length≤256:=lW _ 256
 refine enter Tryz.func137 rfl Tryz.ntmps137 rfl ?_
 refine aa (fun _ aF=>(e (jm rfl fun aM w1 ag J hB1=>ae (((aF _ _ (aa (fun _ aH=> ?_))))))))
 refine p (da fI rfl (rfl) (fun j av=>by rw [Nat.zero_add]; exact (hB1).aw j)) (e (cl rO (rB f _) rfl fun v6 w6 hR6=> ?_))
 obtain ⟨U,ac⟩:=hR6
 obtain ⟨q,a,rfl⟩:=db U
 have hC6:=(aA U).2
 have I:Wk w w6:=Md.trans J.md ac
 have hB6:=ac.B hB1
 refine ae (((aH _ _ (sq (fun _ aI=>au (aa (fun _ aJ=>(ab (.slice q (bytesOf f).length a) ?_))))))))
 refine p (bm jH rfl rfl) (p (ba rfl rfl) (ae (((aJ _ _ (cd rfl (fun a0=> ?_) (fun a0=> ?_)))))))
 refine aa (fun _ A=>(ae (((A _ _ (rt (br (tr ?_))))))))
 exact f1 rfl rfl (⟨by unfold gK; rw [if_pos (show (bytesOf f).length=256 by omega)]; rfl,I⟩)
 refine c6 (fun Y aC=> ∃ (Z:Bool),(Z=decide ((bytesOf f).length=1∧(bytesOf f).getD 0 0≠46∧(bytesOf f).getD 0 0≠91))∧(aC=w6)∧(Y 1=aU aM)∧(Y 3= .slice q (bytesOf f).length a)∧(Y 11= .bool Z)) ?_ ?_
 refine rg rfl (ab (.slice q (bytesOf f).length a) (p (bm jH rfl rfl) (p (ba rfl rfl) (p mv (gs (t:=15) rfl (fun a1=> ?_) (fun a1=> ?_))))))
 refine pg rfl rfl rfl (ao (.slice q (bytesOf f).length a) rfl) (pg rfl rfl rfl (aG js rfl rfl (by omega) (aj.ok (hC6) (ow (by omega)))) (pg rfl rfl rfl (ld m3 rfl (ov (i:=0) hC6 (by omega))) (pg rfl rfl rfl (dF rfl rfl) (p (bl rfl) (p mv (gs (t:=21) rfl (fun ar=> ?_) (fun ar=> ?_)))))))
 refine pg rfl rfl rfl (ao (.slice q (bytesOf f).length a) rfl) (pg rfl rfl rfl (aG js rfl rfl (by omega) (aj.ok (hC6) (ow (by omega)))) (pg rfl rfl rfl (ld m3 rfl (ov (i:=0) hC6 (by omega))) (pg rfl rfl rfl (dF rfl rfl) (p (bl rfl) (p ak (nl (tn ?_)))))))
 exact ⟨_,((by first | exact decide_eq_decide.2 ⟨fun h=>⟨by omega,by first | exact uL (by omega) | exact fun h=>by omega,by first | exact qe (by omega) | exact fun h=>by omega⟩,fun h=>by have h1:=h.2.2; exact fun h2=>h1 (tW h2)⟩ | rfl)),rfl,rfl,rfl,rfl⟩
 refine sk rfl rfl rfl rfl (sk rfl rfl rfl rfl (sk rfl rfl rfl rfl (sk rfl rfl rfl rfl (p (a7 rfl) (p ak (nl (tn ?_)))))))
 exact ⟨false,((decide_eq_false (fun h=>h.2.1 (tV (Decidable.of_not_not ar)))).symm),rfl,rfl,rfl,rfl⟩
 refine sk rfl rfl rfl rfl (sk rfl rfl rfl rfl (sk rfl rfl rfl rfl (sk rfl rfl rfl rfl (p (a7 rfl) (p mv (sk rfl rfl rfl rfl (sk rfl rfl rfl rfl ?_)))))))
 exact sk rfl rfl rfl rfl (sk rfl rfl rfl rfl (p (a7 rfl) (ae (((⟨false,((decide_eq_false (fun h=>by omega)).symm),rfl,rfl,rfl,rfl⟩))))))
 rintro Y aC ⟨Z,ag,aR,a4,a6,a5⟩
 refine fx 1 a4 (fx 3 a6 (fx 11 a5 ?_))
 subst aR
 refine cb rfl (fun ah=> ?_) (fun ah=> ?_)
 have V:(bytesOf f).length=1∧(bytesOf f).getD 0 0≠46∧(bytesOf f).getD 0 0≠91:=of_decide_eq_true (ag ▸ ah)
 refine aa (fun _ A=>(ab (.slice q (bytesOf f).length a) (p (k0 kX rfl (hC6) (by simp)) (ae (((A _ _ (rt ?_))))))))
 exact br (tr (f1 rfl rfl (⟨by unfold gK; rw [if_neg (show ¬(bytesOf f).length=256 by omega),if_pos V]; rfl,I⟩)))
 have V:¬((bytesOf f).length=1∧(bytesOf f).getD 0 0≠46∧(bytesOf f).getD 0 0≠91):=of_decide_eq_false (ag ▸ ah)
 refine aa (fun _ A=>(p (da fI rfl (rfl) (fun j av=>by rw [Nat.zero_add]; exact (hB6).aw j)) (e (cl rP (tI f 93 _ _ rfl) rfl fun bi w31 aT=> ?_))))
 obtain ⟨rfl,hE31⟩:=aT
 refine ae (((A _ _ (cb rfl (fun ai=> ?_) (fun ai=> ?_)))))
 refine aa (fun _ C=>(p (da fI rfl (rfl) (fun j av=>by rw [Nat.zero_add]; exact (hE31.B hB6).aw j)) (e (cl oO (ql f _) rfl fun bj w33 aV=> ?_))))
 obtain ⟨rfl,aO⟩:=aV
 refine e (cl rO (rB (fun x=> !f x) _) rfl fun bk bs aW=> ?_)
 obtain ⟨ay,aP⟩:=aW
 obtain ⟨a9,bc,rfl⟩:=db ay
 refine p (k0 kX rfl ((aA ay).2) (rfl)) (p (cc rfl rfl (by simp only [List.length_cons,List.length_nil]; omega)) (p (cc rfl rfl (by simp only [List.length_cons,List.length_nil,List.length_append]; omega)) (ae (((C _ _ (rt (br ?_))))))))
 exact tr (f1 rfl rfl (⟨by unfold gK; rw [if_neg (show ¬(bytesOf f).length=256 by omega),if_neg V,if_pos ai]; rfl,Md.trans I (Md.trans hE31 (Md.trans aO aP))⟩))
 refine az (bn (tn (aI _ _ ?_)))
 refine c6 (fun aD wC=> ∃ (E:Option Addr) (s G:Nat),(((bytesOf f).filter (fun b=>decide (b≠94))++(if 94∈(bytesOf f) then [94] else [])).length=s)∧(World.ownsRow wC w1.heap.size 5 1 (.slice E s G) s (U8 ((bytesOf f).filter (fun b=>decide (b≠94))++(if 94∈(bytesOf f) then [94] else []))))∧(Wk w wC)∧(s≤300)∧(aD 3= .slice E s G)) ?_ ?_
 refine aa (fun _ C=>(ab (.slice q (bytesOf f).length a) (e (cl yh (Cy (bytesOf f) q _ a 94 _ (hC6.wk hE31) rfl (by omega)) rfl fun bo w39 aX=> ?_))))
 obtain ⟨rfl,hE39⟩:=aX
 have aq:Wk w w39:=Md.trans I (Md.trans hE31 hE39)
 refine ae (((C _ _ (aa (fun _ aL=>(p mv (p (ge rfl rfl) (nl ?_))))))))
 refine tn (aL _ _ (cd rfl (fun aZ=> ?_) (fun aZ=> ?_)))
 have hix:=lr (c:=94) (l:=bytesOf f) (by omega)
 have ho39:=aE (aE U hE31) hE39
 obtain ⟨gg,rfl⟩:=Eh ho39 (by omega)
 refine rg rfl (ab (.slice (some ⟨gg,0,none⟩) (bytesOf f).length a) (p mv (p mv (p (ad rfl rfl (bw (by omega))) (e (cl yi (Ap (bytesOf f) ((bytesOf f).idxOf 94) ((bytesOf f).idxOf 94 +1) _ _ w1.heap.size _ a gg _ ho39 (by omega) (by omega) (by omega) (by omega)) rfl fun bp w46 aY=> ?_))))))
 obtain ⟨rfl,al,hM46⟩:=aY
 have hE46:Wk w w46:=Md.trans' aq hM46 (fun k hk h=>by have :=cM ho39 (show (Value.slice (some ⟨gg,0,none⟩) _ a).ownBlock=some gg from rfl); have :=J.md.size; omega)
 have hlx:=qG al
 refine e (gh ij rfl rfl fun bb bt bd M aN=>e (ap ij (aE al M.md) rfl (by have :=J.md.size; have :=ac.size; have :=hE31.size; have :=hE39.size; have :=hM46.size; have :=M.md.size; omega) rfl (aj.dZ aN) (rfl) (rfl) (by omega) (by omega) fun bq w48 am aS bh bg=> ?_))
 have hE48:=Wk.own (Md.trans hE46 M.md) (aE al M.md) aS J.md.size
 rw [Cw (xS f) hix.2] at hlx am
 obtain ⟨an,c2,rfl⟩:=db am
 have aB:World.ownsRow w48 w1.heap.size 5 1 (.slice an (((bytesOf f).idxOf 94 +((bytesOf f).length - ((bytesOf f).idxOf 94 +1)))+1) c2) (((bytesOf f).idxOf 94 +((bytesOf f).length - ((bytesOf f).idxOf 94 +1)))+1) (U8 ((bytesOf f).filter (fun b=>decide (b≠94))++ [94])):=by rw [mV]; exact am
 exact ae (((⟨an,_,c2,((by have :=qG aB; rw [if_pos (List.idxOf_lt_length_iff.1 hix.2)]; exact this)),((by rw [if_pos (List.idxOf_lt_length_iff.1 hix.2)]; exact aB)),hE48,((by omega)),rfl⟩)))
 have O:¬(94:UInt8)∈bytesOf f:=fun h=>by have h1:cD 94 (bytesOf f)=(bytesOf f).idxOf 94:=if_pos (List.idxOf_lt_length_iff.2 h); omega
 exact az (tn (⟨q,(bytesOf f).length,a,((by rw [if_neg O,uC O,List.append_nil])),((by rw [if_neg O,uC O,List.append_nil]; exact aE (aE U hE31) hE39)),aq,((by omega)),rfl⟩))
 rintro aD wC ⟨E,s,G,ax,a3,aQ,a2,a8⟩
 refine fx 3 a8 ?_
 have hF3:((bytesOf f).filter (fun b=>decide (b≠94))++(if 94∈(bytesOf f) then [94] else [])).length≤300:=by rw [ax]; exact a2
 refine aa (fun _ C=>(ab (.slice E s G) (p (k0 kX rfl ((aA a3).2) (ax)) (p (cc rfl rfl (Nat.le_trans (Nat.add_le_add_left hF3 _) (by decide))) (p (cc rfl rfl (by rw [List.length_append]; exact Nat.le_trans (Nat.add_le_add_right (Nat.add_le_add_left hF3 _) _) (by decide))) (p ak (nl ?_)))))))
 exact tn (C _ _ (rt (f1 rfl rfl (⟨by unfold gK; rw [if_neg (show ¬(bytesOf f).length=256 by omega),if_neg V,if_neg (show ¬f 93=true from by rw [ai]; exact Bool.noConfusion)]; rfl,aQ⟩))))
theorem zV (s:List UInt8) (w:World) (hs:s.length≤1048576):
 aK Tryz.prog 120 (List.toArray [str s]) w (fun v w'=>(∃ a,v= .tuple #[.agg [a].toArray,U ((dy s).2)]∧World.ownsRow w' w.heap.size 227 4 (a) ((dy s).1).length (gw ((dy s).1)))∧Wk w w'):=by
 refine enter Tryz.func120 rfl Tryz.ntmps120 rfl ?_
 refine aa (fun _ bb=>(e (fP qO fun aq cp hb2 M hB2=>ae (((bb _ _ (sq (fun _ bh=>sq (fun _ aX=> ?_)))))))))
 refine rg rfl (ab (str s) (p (e5 rfl rfl) (p mv (gs (t:=10) rfl (fun hg10=> ?_) (fun hg10=> ?_)))))
 refine sk rfl rfl rfl rfl (sk rfl rfl rfl rfl (sk rfl rfl rfl rfl (p (bl rfl) (ag ((aX _ _ (ct rfl (sq (fun _ Y=> ?_)))))))))
 refine rg rfl (p (bZ (ps:= []) (L:= [.slice none 0 0]) mG rfl (rfl)) (e (fY kt rfl (vs:= [.slice none 0 0]) rfl rfl rfl hB2 (by decide) fun w9 hM9 c=> ?_)))
 have q:Wk w w9:=Md.trans' M.md hM9 (fun k hk h=>by omega)
 exact ae (((Y _ _ (rt (tr (ee rfl (cW (cs:= [.slice none 0 0]) rfl jP rfl (fun j A=>(by cases j with | zero=>exact (aM c).trans rfl | succ j=>omega))) dB (⟨⟨.slice none 0 0,by unfold dy; rw [if_pos (.inl hg10)]; rfl,by unfold dy; rw [if_pos (.inl hg10)]; exact World.ownsRow_nil _ _ _ _⟩,q⟩)))))))
 refine pg rfl rfl rfl (ao (str s) rfl) (pg rfl rfl rfl (bR u9 rfl rfl) (pg rfl rfl rfl (gt rfl rfl) (p (a7 rfl) (ag ((aX _ _ (cd rfl (fun bO=> ?_) (fun bO=> ?_))))))))
 refine aa (fun _ Y=>(p (bZ (ps:= []) (L:= [.slice none 0 0]) mG rfl (rfl)) (e (fY kt rfl (vs:= [.slice none 0 0]) rfl rfl rfl hB2 (by decide) fun w9 hM9 c=> ?_))))
 have q:Wk w w9:=Md.trans' M.md hM9 (fun k hk h=>by omega)
 exact ae (((Y _ _ (rt (tr (ee rfl (cW (cs:= [.slice none 0 0]) rfl jP rfl (fun j A=>(by cases j with | zero=>exact (aM c).trans rfl | succ j=>omega))) dB (⟨⟨.slice none 0 0,by unfold dy; rw [if_pos (.inr (by omega))]; rfl,by unfold dy; rw [if_pos (.inr (by omega))]; exact World.ownsRow_nil _ _ _ _⟩,q⟩)))))))
 refine az (tn (bh _ _ (sq (fun _ Y=>aa (fun _ bi=>(ab (str s) (p (e5 rfl rfl) (nl ?_))))))))
 refine tn (bi _ _ (cd rfl (fun O=> ?_) (fun O=> ?_)))
 refine aa (fun _ aO=>(p (bZ (ps:= []) (L:= [.slice none 0 0]) mG rfl (rfl)) (e (fY kt rfl (vs:= [.slice none 0 0]) rfl rfl rfl hB2 (by decide) fun w9 hM9 c=> ?_))))
 have q:Wk w w9:=Md.trans' M.md hM9 (fun k hk h=>by omega)
 refine ae (((aO _ _ (rt (tr (ee rfl (cW (cs:= [.slice none 0 0]) rfl jP rfl (fun j A=>(by cases j with | zero=>exact (aM c).trans rfl | succ j=>omega))) dB ?_))))))
 have a4:¬(s= []∨512 < s.length):=fun h=>h.elim hg10 (fun h=>by omega)
 exact ⟨⟨.slice none 0 0,by unfold dy; rw [if_neg a4,if_pos O]; rfl,by unfold dy; rw [if_neg a4,if_pos O]; exact World.ownsRow_nil _ _ _ _⟩,q⟩
 refine az (tn (Y _ _ (aa (fun _ aO=>(e (fP qO fun Z w4 ca a3 bx=> ?_))))))
 have hE4:Wk w w4:=Md.trans M.md a3.md
 have hb2l:=(Array.getElem?_eq_some_iff.1 hB2).1
 have hB2x:=a3.md.au hB2
 have hs:=hs
 refine ag ((aO _ _ (sq (fun _ bj=>aa (fun _ bk=>(ae (((bk _ _ ?_)))))))))
 refine au (lp (fun aY an wI=> ∃ (i:Nat) (dn:List (List UInt8)) (am:Value),(i≤s.length∧dn.length≤i)∧(fM s i dn)∧(wI.heap[Z]? =some (.cells [am].toArray 213 (0,0)))∧(wI.heap[aq]? =some (.cells [.slice none 0 0].toArray 213 (0,0)))∧(World.ownsRow wI w.heap.size 227 4 (am) (dn).length (gw (dn)))∧(Wk w wI)∧(an 0=str s)∧(an 2=aU aq)∧(an 4=aU Z)∧(an 5=U i)∧(s.length - i=aY)) _ ⟨0,[],.slice none 0 0,((by simp)),(fM.start s),bx,hB2x,(World.ownsRow_nil _ _ _ _),hE4,rfl,rfl,rfl,(by first | rfl | exact iv (if_neg ai)),rfl⟩ ?_)
 rintro aY an wI ⟨i,dn,am,hi,aG,av,ad,G,I,bW,bX,bY,b0,rfl⟩
 refine fx 0 bW (fx 2 bX (fx 4 bY (fx 5 b0 (sq (fun _ bo=>aa (fun _ bc=>(ab (U i) (ab (str s) (p (bR u9 rfl rfl) (p (lt rfl rfl) ?_))))))))))
 refine ag ((bc _ _ (cd rfl (fun bP=> ?_) (fun bP=> ?_))))
 refine az (tn (bo _ _ (au (aa (fun _ aI=>(e (al kN fun ac w6 hb6 aD hB6=> ?_)))))))
 have ar:a9 w6.heap ac (bT (fun _=>false)):=by rw [o5]; exact hB6
 have aR:Wk w w6:=Md.trans I aD.md
 have hBp6:=aD.md.au av
 have hBz6:=aD.md.au ad
 have hol6:=aE G aD.md
 have hb6:ac=wI.heap.size:=hb6
 have hI4:=(Array.getElem?_eq_some_iff.1 av).1
 have hI2:=(Array.getElem?_eq_some_iff.1 ad).1
 have hdi:=drop_cons (l:=s) (i:=i) 0 (by omega)
 refine ag ((aI _ _ (aa (fun _ aJ=>(ae (((aJ _ _ ?_))))))))
 refine c6 (fun V wC=>(s.getD i 0≠91)∧(a9 wC.heap ac (bT (ec [s.getD i 0])))∧(wC.heap[Z]? =some (.cells [am].toArray 213 (0,0)))∧(wC.heap[aq]? =some (.cells [.slice none 0 0].toArray 213 (0,0)))∧(World.ownsRow wC w.heap.size 227 4 (am) (dn).length (gw (dn)))∧(Wk w wC)∧(V 0=str s)∧(V 2=aU aq)∧(V 4=aU Z)∧(V 5=U i)∧(V 6=aU ac)) ?_ ?_
 refine aa (fun _ C=>(ab (str s) (ab (U i) (p (fp u9 rfl rfl (by omega)) (ag ((C _ _ (au ?_))))))))
 refine aa (fun _ bd=>(p (ba rfl rfl) (ae (((bd _ _ (cd rfl (fun aF=> ?_) (fun aF=> ?_))))))))
 refine sq (fun _ aL=>aa (fun _ bf=>(ab (str s) (ab (U i) (p (a8 ((i+1:Nat):Int) rfl rfl (aH (by omega) (by omega))) (e (cl yb (xJ s (i+1) _ hs (by omega)) rfl fun cn w36 bM=> ?_)))))))
 obtain ⟨⟨bs,rfl,bS⟩,hE36⟩:=bM
 have bJ:Wk w w36:=Md.trans aR hE36
 have hb91:=tW aF
 refine p mv (p (xt rfl rfl) (p (xt rfl rfl) (p (xt rfl rfl) (e (bC jr rfl (vs:=bT bs) rfl rfl rfl (hE36.B ar) (by decide) fun w13 ax aZ=> ?_)))))
 have a1:Wk w w13:=Md.trans' bJ ax (fun k hk h=>by have :=I.size; omega)
 have hs36:=hE36.size
 have hBp13:=ax.au (hE36.au hBp6) (fun h=>by omega)
 have hBz13:=ax.au (hE36.au hBz6) (fun h=>by omega)
 have hol13:=bu (aE hol6 hE36) ax (fun k hk h=>by have :=cM G hk; omega)
 have cf:(s.drop (i+1)).length=s.length - (i+1):=List.length_drop
 refine p ak (ae (((bf _ _ (aa (fun _ bg=>(p mv (p (no rfl) ?_))))))))
 refine ag ((bg _ _ (cb rfl (fun E=> ?_) (fun E=> ?_))))
 have ah:fA (s.drop i)=none:=by
  rw [hdi,hb91]
  refine zd rfl (fun h=> ?_)
  have b6:¬cD 93 (s.drop (i+1)) < 0:=by rw [show cD 93 (s.drop (i+1))=(s.drop (i+1)).idxOf 93 from if_pos h.1]; omega
  have hy:=(ry (s:=s) (k:=i+1) h.1).2 h.2
  rw [decide_eq_false b6,decide_eq_true hy] at E; cases E
 have hcr:=aG.bad (by omega) ah
 refine aa (fun _ aN=>(p (bZ (ps:= []) (L:= [.slice none 0 0]) mG rfl (rfl)) (e (fY kt rfl (vs:= [.slice none 0 0]) rfl rfl rfl hBz13 (by decide) fun w9 hM9 c=> ?_))))
 have q:Wk w w9:=Md.trans' a1 hM9 (fun k hk h=>by omega)
 refine ae (((aN _ _ (rt (tr (br (tr (br ?_))))))))
 refine tr (br (tr (ee rfl (cW (cs:= [.slice none 0 0]) rfl jP rfl (fun j A=>(by cases j with | zero=>exact (aM c).trans rfl | succ j=>omega))) dB ?_)))
 have hz:dy s=([],41):=by unfold dy; rw [if_neg (fun h=>h.elim hg10 (fun h=>by omega)),if_neg O,hcr]
 exact ⟨⟨.slice none 0 0,by rw [hz]; rfl,by rw [hz]; exact World.ownsRow_nil _ _ _ _⟩,q⟩
 have ai:¬cD 93 (s.drop (i+1)) < 0:=fun h=>by rw [decide_eq_true h] at E; cases E
 have b7:dH (eo s (i+1)) [94]≠[]:=fun h=>by rw [h] at E; simp at E
 have hix:=lr ai
 have hyk:=(ry (s:=s) (k:=i+1) hix.2).1 b7
 obtain rfl :=bS ai
 rw [xN hix.2 hyk.1] at aZ
 have ah:fA (s.drop i)=some (91::(s.drop (i+1)).take ((s.drop (i+1)).idxOf 93 +1),(s.drop (i+1)).drop ((s.drop (i+1)).idxOf 93 +1)):=by rw [hdi,hb91]; exact zf rfl hix.2 hyk.1 hyk.2
 have hgo2:=aG.step (j:=i+1 +(s.drop (i+1)).idxOf 93 +1) ah (by rw [List.drop_drop]; rfl)
 have ci:(s.drop (i+1)).idxOf 93 < s.length - (i+1):=by have :=hix.2; omega
 refine az (tn (aL _ _ (aa (fun _ aN=>(p (fa ky rfl) (p (ld lS rfl ((aM hBp13).trans rfl)) (p (da fI rfl (rfl) (fun j A=>by rw [Nat.zero_add]; exact (aZ).aw j)) (e (kr n7 rfl rfl rfl fun bp w46 cc aB bz=> ?_)))))))))
 have bA:a9 w46.heap bp (bT (ec (91::(s.drop (i+1)).take ((s.drop (i+1)).idxOf 93 +1)))):=bz
 have hE46:Wk w w46:=Md.trans a1 aB.md
 have hol46:=aE hol13 aB.md
 have hBp46:=aB.md.au hBp13
 have hBz46:=aB.md.au hBz13
 refine e (ap n7 (hol46) rfl (by have :=hE46.size; omega) rfl (aj.dZ bA) (rfl) (sg _) (by omega) (by omega) fun b8 cq a5 aT cj cg=> ?_)
 have ho47x:=uS a5
 have hBp47:=aT.au hBp46 (fun h=>cy hol46 hBp46 (by decide) h)
 have hBz47:=aT.au hBz46 (fun h=>cy hol46 hBz46 (by decide) h)
 have hE47:=Wk.own hE46 hol46 aT (Nat.le_refl _)
 refine p (fa ky rfl) (e (cV sn rfl rfl (dx a5) hBp47 (by simp) fun w16 hM16 bt=> ?_))
 have bG:Wk w w16:=Md.trans' hE47 hM16 (fun k hk h=>by have :=M.md.size; omega)
 exact ag ((aN _ _ (ext (iD (by decide) (te _ (be (tn (⟨_,by omega,i+1 +(s.drop (i+1)).idxOf 93 +1,dn++ [91::(s.drop (i+1)).take ((s.drop (i+1)).idxOf 93 +1)],b8,((by rw [List.length_append,List.length_singleton]; omega)),hgo2,bt,(hM16.au hBz47 (fun h=>by omega)),(bu ho47x hM16 (fun k hk h=>cy ho47x hBp47 (by decide) (h ▸ hk))),bG,rfl,rfl,rfl,(by first | rfl | exact iv (if_neg ai)),rfl⟩))))))))
 refine aa (fun _ aL=>(p (ba rfl rfl) (ae (((aL _ _ (cd rfl (fun aW=> ?_) (fun aW=> ?_))))))))
 refine rg rfl (p (da fI rfl (rfl) (fun j A=>by rw [Nat.zero_add]; exact (ar).aw j)) (e (cl oO (ql (fun _=>false) _) rfl fun co cr bN=> ?_)))
 obtain ⟨rfl,J⟩:=bN
 refine e (bC jr rfl (vs:=bT (fun x=> !(fun _:UInt8=>false) x)) rfl rfl rfl (J.B ar) (by decide) fun w18 ay hB18=> ?_)
 have hs52:=J.size
 have bH:Wk w w18:=Md.trans' (Md.trans aR J) ay (fun k hk h=>by have :=I.size; omega)
 have hBp18:=ay.au (J.au hBp6) (fun h=>by omega)
 have hBz18:=ay.au (J.au hBz6) (fun h=>by omega)
 have hol18:=bu (aE hol6 J) ay (fun k hk h=>by have :=cM G hk; omega)
 exact nl (bn (tn (⟨(qe aF),((by rw [tV aW,← AF]; exact hB18)),hBp18,hBz18,hol18,bH,rfl,rfl,rfl,rfl,rfl⟩)))
 refine rg rfl (ab (str s) (ab (U i) (p (fp u9 rfl rfl (by omega)) (e (cl rL (uZ ac (s.getD i 0) _ _ ar) rfl fun cm w29 bL=> ?_)))))
 obtain ⟨rfl,bw,aA⟩:=bL
 have hE29:Wk w w29:=Md.trans' aR aA (fun k hk h=>by have :=I.size; omega)
 have hBp29:=aA.au hBp6 (fun h=>by omega)
 have hBz29:=aA.au hBz6 (fun h=>by omega)
 have hol29:=bu hol6 aA (fun k hk h=>by have :=cM G hk; omega)
 exact nl (bn (tn (⟨(qe aF),((by rw [← Ea (uL aW)]; exact bw)),hBp29,hBz29,hol29,hE29,rfl,rfl,rfl,rfl,rfl⟩)))
 rintro V wC ⟨bU,bE,a0,bF,bV,bK,b1,b2,b3,b4,b5⟩
 refine fx 0 b1 (fx 2 b2 (fx 4 b3 (fx 5 b4 (fx 6 b5 (aa (fun _ C=>(p (fa ky rfl) (p (ld lS rfl ((aM a0).trans rfl)) (p (da fI rfl (rfl) (fun j A=>by rw [Nat.zero_add]; exact (bE).aw j)) (e (kr n7 rfl rfl rfl fun bq w56 ce aC bB=> ?_)))))))))))
 have bD:a9 w56.heap bq (bT (ec [s.getD i 0])):=bB
 have a2:Wk w w56:=Md.trans bK aC.md
 have hol56:=aE bV aC.md
 have hBp56:=aC.md.au a0
 have hBz56:=aC.md.au bF
 refine e (ap n7 (hol56) rfl (by have :=a2.size; omega) rfl (aj.dZ bD) (rfl) (sg _) (by omega) (by omega) fun b9 cu a6 aV ck ch=> ?_)
 have ho57x:=uS a6
 have hBp57:=aV.au hBp56 (fun h=>cy hol56 hBp56 (by decide) h)
 have hBz57:=aV.au hBz56 (fun h=>cy hol56 hBz56 (by decide) h)
 have hE57:=Wk.own a2 hol56 aV (Nat.le_refl _)
 have ah:fA (s.drop i)=some ([s.getD i 0],s.drop (i+1)):=by rw [hdi]; exact ze bU
 have hgo2:=aG.step (j:=i+1) ah rfl
 refine p (fa ky rfl) (e (cV sn rfl rfl (dx a6) hBp57 (by simp) fun w19 aS bv=> ?_))
 have bI:Wk w w19:=Md.trans' hE57 aS (fun k hk h=>by have :=M.md.size; omega)
 refine ag ((C _ _ (rg rfl (ab (U i) (p (a8 ((i+1:Nat):Int) rfl rfl (aH (by omega) (by omega))) (p ak (nl (bn ?_))))))))
 exact tn (⟨_,by omega,i+1,dn++ [[s.getD i 0]],b9,((by rw [List.length_append,List.length_singleton]; omega)),hgo2,bv,(aS.au hBz57 (fun h=>by omega)),(bu ho57x aS (fun k hk h=>cy ho57x hBp57 (by decide) (h ▸ hk))),bI,rfl,rfl,rfl,(by first | rfl | exact iv (if_neg ai)),rfl⟩)
 refine ext (te _ (te _ (be (tn (bj _ _ (sq (fun _ aI=>sq (fun _ aJ=> ?_))))))))
 obtain ⟨aP,aQ,rfl⟩:=db G
 have hcr:=aG.done (by omega)
 refine rg rfl (p (fa ky rfl) (p (ld lS rfl ((aM av).trans rfl)) (p (bm qF rfl rfl) (p (gt rfl rfl) (ag ((aJ _ _ (cd rfl (fun bQ=> ?_) (fun bQ=> ?_)))))))))
 refine aa (fun _ C=>(p (bZ (ps:= []) (L:= [.slice none 0 0]) mG rfl (rfl)) (e (fY kt rfl (vs:= [.slice none 0 0]) rfl rfl rfl ad (by decide) fun w9 hM9 c=> ?_))))
 have q:Wk w w9:=Md.trans' I hM9 (fun k hk h=>by omega)
 refine ae (((C _ _ (rt (tr (ee rfl (cW (cs:= [.slice none 0 0]) rfl jP rfl (fun j A=>(by cases j with | zero=>exact (aM c).trans rfl | succ j=>omega))) dB ?_))))))
 have hz:dy s=([],42):=by unfold dy; rw [if_neg (fun h=>h.elim hg10 (fun h=>by omega)),if_neg O,hcr]; exact if_pos (by omega)
 exact ⟨⟨.slice none 0 0,by rw [hz]; rfl,by rw [hz]; exact World.ownsRow_nil _ _ _ _⟩,q⟩
 refine az (tn (aI _ _ (aa (fun _ C=>(p (da jP rfl (rfl) (show ∀ j,j < 1→Hb.aw wI.heap Z (0 +j)= [Value.slice aP dn.length aQ][j]? from fun j A=>(by cases j with | zero=>exact (aM av).trans rfl | succ j=>omega))) (e (fY kt rfl (vs:= [.slice aP dn.length aQ]) rfl rfl rfl ad (by decide) fun w9 hM9 c=> ?_)))))))
 have q:Wk w w9:=Md.trans' I hM9 (fun k hk h=>by omega)
 have hol9:=bu G hM9 (fun k hk h=>cy G ad (by decide) (h ▸ hk))
 refine ae (((C _ _ (rt (ee rfl (cW (cs:= [.slice aP dn.length aQ]) rfl jP rfl (fun j A=>(by cases j with | zero=>exact (aM c).trans rfl | succ j=>omega))) dB ?_)))))
 have hz:dy s=(dn,0):=by unfold dy; rw [if_neg (fun h=>h.elim hg10 (fun h=>by omega)),if_neg O,hcr]; exact if_neg (by omega)
 exact ⟨⟨_,by rw [hz]; rfl,by rw [hz]; exact hol9⟩,q⟩
theorem EE (ps:List (List UInt8)) (a:Option Addr) (c:Nat) (w:World) (hC:aj w.heap a (gw ps)) (hn:ps.length≤4096):
 aK Tryz.prog 121 (List.toArray [.agg [.slice a ps.length c].toArray]) w (fun v w'=>v=str (lC ps)∧Wk w w'):=by
 refine enter Tryz.func121 rfl Tryz.ntmps121 rfl ?_
 refine aa (fun _ J=>(e (jm rfl fun aB w1 aD A hB1=>ae (((J _ _ (sq (fun _ O=>sq (fun _ V=> ?_)))))))))
 refine rg rfl (p (fa ky rfl) (p (ld lS rfl (hB1.aw 0)) (p (bm qF rfl rfl) (p (ba rfl rfl) (ag ((V _ _ (cd rfl (fun G=> ?_) (fun G=> ?_)))))))))
 refine aa (fun _ C=>(ae (((C _ _ (rt (tr (f1 rfl rfl ?_))))))))
 exact ⟨by unfold lC; rw [if_pos (List.eq_nil_of_length_eq_zero (by omega))]; rfl,A.md⟩
 refine az (tn (O _ _ (aa (fun _ C=>(ae (((C _ _ (sq (fun _ Y=> ?_))))))))))
 refine aa (fun _ Z=>(p (fa ky rfl) (p (ld lS rfl (hB1.aw 0)) (p (bm qF rfl rfl) (p mv (ag ((Z _ _ ?_))))))))
 refine au (lp (fun I s wI=> ∃ (i:Nat),(i≤ps.length)∧(Wk w1 wI)∧(((ps.take i).flatMap fun t=>gK (ec t)).length≤i*300)∧(s 3=str ((ps.take i).flatMap fun t=>gK (ec t)))∧(s 11= .slice a ps.length c)∧(s 12=U (ps.length))∧(s 13=U i)∧(ps.length - i=I)) _ ⟨0,(by omega),(Md.refl _ _),((by simp)),(by first | rfl | (rw [g3 ps i [] (by omega),List.flatMap_append,List.flatMap_singleton]; rfl)),rfl,rfl,rfl,rfl⟩ ?_)
 rintro I s wI ⟨i,hi,q,hlen,aA,av,ax,ay,rfl⟩
 refine fx 3 aA (fx 11 av (fx 12 ax (fx 13 ay (aa (fun _ ac=>(p (lt rfl rfl) (ag ((ac _ _ (sq (fun _ ah=>cd rfl (fun ar=> ?_) (fun ar=> ?_))))))))))))
 refine az (tn (ah _ _ (sq (fun _ E=>au (aa (fun _ M=>(p (aG A4 rfl rfl (by omega) (aj.ok (hC.wk (Md.trans A.md q)) (zB (by omega)))) (p (da fI rfl (rfl) (show ∀ j,j < 4→Hb.aw wI.heap (bk a) (fo a+i*4 +j)=(bT (ec (ps.getD i [])))[j]? from zA (hC.wk (Md.trans A.md q)) (by omega))) ?_))))))))
 refine e (al kN fun aC w5 hb5 ap ai=>e (bC jr rfl (vs:=bT (ec (ps.getD i []))) rfl rfl rfl ai (by decide) fun w6 ao hB6=> ?_))
 have an:Wk w1 w6:=Md.trans' (Md.trans q ap.md) ao (fun k hk h=>by have :=q.size; omega)
 refine ag ((M _ _ (rg rfl (ab (str ((ps.take i).flatMap fun t=>gK (ec t))) (p (da fI rfl (rfl) (fun j aE=>by rw [Nat.zero_add]; exact (hB6).aw j)) (e (cl yc (Ft (ec (ps.getD i [])) _) rfl fun aF w19 aq=> ?_)))))))
 obtain ⟨rfl,am⟩:=aq
 have hsl:=Fs (ec (ps.getD i []))
 refine p (cc rfl rfl (by omega)) (p ak (nl (bn (tn (E _ _ (rg rfl (p (ad rfl rfl (bw (by omega))) (p mv ?_))))))))
 exact ag ((⟨_,by omega,i+1,(by omega),(Md.trans an am),((by rw [g3 ps i [] (by omega),List.flatMap_append,List.flatMap_singleton,List.length_append]; omega)),(by first | rfl | (rw [g3 ps i [] (by omega),List.flatMap_append,List.flatMap_singleton]; rfl)),rfl,rfl,rfl,rfl⟩))
 refine ext (te _ (te _ (be (tn (Y _ _ (aa (fun _ E=>(ab (str ((ps.take i).flatMap fun t=>gK (ec t))) ?_))))))))
 exact p (bA (str ((ps.take i).flatMap fun t=>gK (ec t))) rfl) (ag ((E _ _ (rt (f1 rfl rfl (⟨by unfold lC; rw [if_neg (fun h=>by rw [h] at G; exact G rfl),show ps.take i=ps from List.take_of_length_le (by omega)]; rfl,Md.trans A.md q⟩))))))
end Go.Hb.lQ
end
section
set_option maxRecDepth 20000
set_option maxHeartbeats 1000000
namespace Go.Hb.fz
open Go.Hb.cG
open Go.Proofs
open Go.Hb.eJ Go.Hb.fg Go.Hb.jg Go.Hb.jj Go.Hb.gP Go.Hb.ke Go.Hb.fG Go.Hb.kP Go.Hb.lQ Go.Hb.fZ Go.Hb.fN
theorem tc {kind:Nat} {al:List (List Nat)} {s:Tx} (h:al= []):dN kind al s=gV kind s:=if_pos h
theorem BB {kind:Nat} {al:List (List Nat)} {s:Tx} {e:Nat} (h:al≠[]) (h1:cA s al.length= .error e):dN kind al s= .error 13:=by unfold dN; rw [if_neg h,h1]
theorem BE {kind:Nat} {al:List (List Nat)} {s:Tx} (h:al≠[]) (h1:cA s al.length= .ok 0):dN kind al s= .error 13:=by unfold dN; rw [if_neg h,h1]; rfl
theorem BD {kind n:Nat} {al:List (List Nat)} {s:Tx} (h:al≠[]) (h1:cA s al.length= .ok n) (hz:n≠0):dN kind al s= .ok (al.getD (n - 1) []):=by unfold dN; rw [if_neg h,h1]; exact if_neg hz
theorem tA {kind:Nat} {s:Tx} (h:(dm kind s).2=0):gV kind s= .ok (dm kind s).1:=if_neg fun h2=>h2 h
theorem tx {kind:Nat} {s:Tx} (h:(dm kind s).2≠0):gV kind s= .error (dm kind s).2:=if_pos h
theorem vl {kind ln:Nat} {al:List (List Nat)} {c:cT} {r:List Tx} (h:r.length≠4) (h1:r.length≠5):gI kind al c ln r= .error 111:=by unfold gI; rw [if_pos ⟨h,h1⟩]
theorem j6 {kind ln:Nat} {al:List (List Nat)} {c:cT} {r:List Tx} (h:r.length=4∨r.length=5):gI kind al c ln r=(match dQ true (r.getD 2 []) with
 | .error e=> .error e
 | .ok st=>match iw (aV (r.getD 3 [])) with
   | .error e=> .error e
   | .ok ad=>match iV kind al c.kind (aV (r.getD 3 [])) with
     | .error e=> .error e
     | .ok nx=>match iH r with
       | .error e=> .error e
       | .ok cd=> .ok ⟨c.kind,c.flag,c.gx,st,ad,cd,nx,ln⟩):=by unfold gI; rw [if_neg (by omega)]; rfl
theorem xd {r:gQ} (h:r.2.2.2≠0):iw r= .error r.2.2.2:=if_pos h
theorem xg {r:gQ} (h:r.2.2.2=0) (h1:r.1= [48]):iw r= .ok []:=by unfold iw; rw [if_neg (fun h2=>h2 h),if_pos h1]
theorem xe {r:gQ} (h:r.2.2.2=0) (h1:r.1≠[48]) (h2:eL r.1≠0):iw r= .error (eL r.1):=by unfold iw; rw [if_neg (fun h2=>h2 h),if_neg h1,if_pos h2]
theorem xf {r:gQ} (h:r.2.2.2=0) (h1:r.1≠[48]) (h2:eL r.1=0):iw r= .ok r.1:=by unfold iw; rw [if_neg (fun h2=>h2 h),if_neg h1,if_neg (fun h3=>h3 h2)]
theorem DQ {kind a:Nat} {al:List (List Nat)} {r:gQ} (h:r.2.2.1=false):iV kind al a r= .ok []:=by unfold iV; rw [if_neg (by rw [h]; exact Bool.noConfusion)]
theorem DP {kind a:Nat} {al:List (List Nat)} {r:gQ} (h:r.2.2.1=true) (h1:a=1):iV kind al a r= .error 118:=by unfold iV; rw [if_pos h,if_pos h1]
theorem uA {kind a:Nat} {al:List (List Nat)} {r:gQ} (h:r.2.2.1=true) (h1:a≠1):iV kind al a r=dN kind al r.2.1:=by unfold iV; rw [if_pos h,if_neg h1]
theorem zP {r:List Tx} (h:r.length≠5):iH r= .ok [46]:=if_neg h
theorem zM {r:List Tx} (h:r.length=5) (h1:ed (r.getD 4 [])=false):iH r= .error 21:=by unfold iH; rw [if_pos h,if_pos h1]
theorem zN {r:List Tx} (h:r.length=5) (h1:ed (r.getD 4 [])=true) (h2:(dy (r.getD 4 [])).2≠0):iH r= .error (dy (r.getD 4 [])).2:=by unfold iH; rw [if_pos h,if_neg (by rw [h1]; exact Bool.noConfusion),if_pos h2]
theorem zO {r:List Tx} (h:r.length=5) (h1:ed (r.getD 4 [])=true) (h2:(dy (r.getD 4 [])).2=0):iH r= .ok (lC (dy (r.getD 4 [])).1):=by unfold iH; rw [if_pos h,if_neg (by rw [h1]; exact Bool.noConfusion),if_neg (fun h3=>h3 h2)]
theorem zU (s:Tx):(dy s).1.length≤16:=by
 unfold dy
 split
 · simp
 · split
   · simp
   · split
     · simp
     · split
       · simp
       · rename_i h; exact Nat.le_of_not_lt h
theorem sY (B fb mc:Nat) (F:aB) (V:cR) (s:Tx) (w:World) (q:bz w B fb mc F V) (hk:F.kind=1∨F.kind=2∨F.kind=3) (hal:∀ l∈F.aliases,l.length≤64∧l.Pairwise (· < ·)) (aC:F.aliases.length≤70000) (hs:s.length≤1048576):
 aK Tryz.prog 75 (List.toArray [aU fb,str s]) w (fun v w'=>((∃ a l,v= .tuple #[a,.int .i64 0]∧dN F.kind F.aliases s= .ok l∧World.ownsRow w' w.heap.size 71 1 a l.length (l.map ay))∨(∃ a e,v= .tuple #[a,U e]∧e≠0∧dN F.kind F.aliases s= .error e))∧Wk w w'):=by
 obtain ⟨an,e0,Y⟩:=db q.eH
 have ho10:=q.eH
 rw [Y] at ho10
 have hc10:Hb.aw w.heap fb 10=some (.slice an F.aliases.length e0):=by rw [← Y]; exact (aM q.cells).trans rfl
 refine enter Tryz.func75 rfl Tryz.ntmps75 rfl ?_
 refine aa (fun _ Z=>(p ak (ae (((Z _ _ (sq (fun _ ac=>sq (fun _ ad=> ?_)))))))))
 refine rg rfl (ab (aU fb) (p (fQ iY rfl rfl) (ag ((ad _ _ (cf (rfl) (az (tn (ac _ _ ?_)))))))))
 refine sq (fun _ ah=>aa (fun _ ai=>(ab (aU fb) (p (nc rfl) (p (fa dw rfl) (p (fa jt rfl) (p (ld kn rfl (hc10)) ?_)))))))
 refine p (bm ot rfl rfl) (p (ba rfl rfl) (ag ((ai _ _ (cd rfl (fun E=> ?_) (fun E=> ?_))))))
 have i:F.aliases= []:=List.eq_nil_of_length_eq_zero (by omega)
 refine aa (fun _ A=>(ab (aU fb) (p (nc rfl) (p (fa dw rfl) (p (fa lh rfl) (p (ld cX rfl ((aM q.cells).trans rfl)) (ab (str s) ?_)))))))
 refine e (cl rD (tB F.kind s _ hk hs) rfl fun aD aL ap=> ?_)
 obtain ⟨⟨J,rfl,ho23⟩,hE23⟩:=ap
 refine p (xt rfl rfl) (p (xt rfl rfl) (p ak (ae (((A _ _ (rt (tr ?_))))))))
 refine f2 rfl rfl rfl ?_
 refine ⟨?_,hE23⟩
 by_cases h:(dm F.kind s).2=0
 exact .inl ⟨J,_,by rw [h]; rfl,by rw [tc i]; exact tA h,ho23⟩
 exact .inr ⟨J,_,rfl,h,by rw [tc i]; exact tx h⟩
 have i:F.aliases≠[]:=fun h=>by rw [h] at E; exact E rfl
 refine az (tn (ah _ _ (aa (fun _ A=>(ab (str s) (ab (aU fb) (p (nc rfl) (p (fa dw rfl) ?_))))))))
 refine p (fa jt rfl) (p (ld kn rfl (hc10)) (p (bm ot rfl rfl) (e (cl ng (nV s (F.aliases.length:Nat) _ hs (by omega)) rfl fun aF aN aq=> ?_))))
 obtain ⟨rfl,c⟩:=aq
 refine p mv (p (xt rfl rfl) (p (xt rfl rfl) (p ak (ae (((A _ _ (sq (fun _ am=> ?_)))))))))
 refine aa (fun _ I=>(p mv (p (dF rfl rfl) (p mv (gs (t:=39) rfl (fun av=> ?_) (fun av=> ?_))))))
 refine sk rfl rfl rfl rfl (sk rfl rfl rfl rfl (p (bl rfl) (ag ((I _ _ (ct rfl (aa (fun _ j=> ?_))))))))
 exact p ak (ae (((j _ _ (rt (tr (f2 rfl rfl rfl (⟨.inr ⟨.slice none 0 0,13,rfl,by decide,BB i (nT (by omega)).1⟩,c⟩))))))))
 refine pg rfl rfl rfl mv (pg rfl rfl rfl (ba rfl rfl) (p (a7 rfl) (ag ((I _ _ (cd rfl (fun au=> ?_) (fun au=> ?_)))))))
 refine aa (fun _ j=>(p ak (ae (((j _ _ (rt (tr ?_))))))))
 refine f2 rfl rfl rfl ?_
 have hnx:=nU (by omega :(dp s (F.aliases.length:Nat)).2=0)
 rw [show (dp s (F.aliases.length:Nat)).1=0 from by omega] at hnx
 exact ⟨.inr ⟨.slice none 0 0,13,rfl,by decide,BE i hnx⟩,c⟩
 refine az (tn (am _ _ (sq (fun _ j=> ?_))))
 have hnx:=nU (by omega :(dp s (F.aliases.length:Nat)).2=0)
 have hnle:=p9 s (F.aliases.length:Nat) (by omega)
 have M:(dp s (F.aliases.length:Nat)).1 - 1 < F.aliases.length:=by omega
 obtain ⟨aI,G,C⟩:=bO.get (q.al.wk c) M
 obtain ⟨ax,yJ,rfl⟩:=C.slice
 have hal51:=hal _ (dW (d:= []) M)
 refine rg rfl (ab (aU fb) (p (nc rfl) (p (fa dw rfl) (p (fa jt rfl) (p (ld kn rfl (Wk.aw c hc10)) (p mv (p (bI (((dp s (F.aliases.length:Nat)).1 - 1:Nat):Int) rfl rfl (aH (by omega) (by omega))) ?_)))))))
 refine p (aG po rfl rfl (by omega) (aj.ok ((aA (aE ho10 c)).2) (fun h=>by rw [h] at G; cases G))) (p (ld km rfl (aj.g7 (aA (aE ho10 c)).2 G)) (e (cl rF (uO (F.aliases.getD ((dp s (F.aliases.length:Nat)).1 - 1) []) _ _ _ C.bL.2 (fun h=>Tg.nS C (by simp) h) (by omega)) rfl fun aJ aO ar=> ?_)))
 obtain ⟨O,ao⟩:=ar
 rw [D7 hal51.2] at O
 exact p ak (ae (((j _ _ (rt (f2 rfl rfl rfl (⟨.inl ⟨_,_,rfl,BD i hnx (by omega),fV O c.size⟩,c.trans ao⟩)))))))
theorem Fc (B:Nat) (H:bd) (F:aB) (V:cR) (R:dD) (rows:List Rw) (ln:Nat) (seen:List Tx) (c:cT) (r:List Tx) (bw:Nat) (A:Option Addr) (C:Nat) (w:World) (G:bz w B H.fb H.mc F V) (E:bg w B H F R rows ln seen) (aN:fE F rows seen) (dc:c.kind=1∨c.kind=2) (hT:Tg w bw 9 r.length (.slice A r.length C) (r.map str)) (hrl:r.length≤70000∧∀ x∈r,x.length≤70000):
 cI Tryz.prog 102 (List.toArray [.pointer (some ⟨H.rb,0,none⟩),.agg (jq c).toArray,.slice A r.length C]) w (fun v w'=> ∃ q,gI F.kind F.aliases c ln r= .ok q∧q.line=ln∧(∃ vn,v= .agg (fW (q,vn)).toArray∧Tg w' B 71 q.next.length vn (q.next.map ay))∧Wk w w') (fun ad w'=> ∃ e,gI F.kind F.aliases c ln r= .error e∧ad=eu 25 ln (e:Nat)∧Wk w w'):=by
 have hTs:=hT.bL
 have hrb:=(Array.getElem?_eq_some_iff.1 E.cells).1
 have hlo:=E.lo.1
 refine e4 Tryz.func102 rfl Tryz.ntmps102 rfl ?_
 refine sq (fun cZ b0=>rg rfl (e (jm rfl fun aL w4 c8 bh bR=>e (al qN fun Y w6 hb6 aF hB6=> ?_))))
 have av:Wk w w6:=bh.md.trans aF.md
 have hln6:=Wk.aw av E.cw
 have hz4:=bh.size
 have hz6:=aF.size
 refine nl (tn (b0 _ _ ?_))
 refine c6 (fun aq wC=>(r.length=4∨r.length=5)∧(wC=w6)∧(aq 0= .pointer (some ⟨H.rb,0,none⟩))∧(aq 2= .slice A r.length C)∧(aq 4= .pointer (some ⟨aL,0,none⟩))∧(aq 6= .pointer (some ⟨Y,0,none⟩))) ?_ ?_
 refine rg rfl (p (ao (.pointer (some ⟨H.rb,0,none⟩)) rfl) (p (ao (.slice A r.length C) rfl) (p (bm dI rfl rfl) (p (ba rfl rfl) (p mv (gs (t:=20) rfl (fun cr=> ?_) (fun cr=> ?_)))))))
 refine sk rfl rfl rfl rfl (sk rfl rfl rfl rfl (sk rfl rfl rfl rfl (p (bl rfl) (eP rfl (bq dK (dP H.rb ln _ 111 w6 hln6 (by decide)) rfl fun cS w25 aZ=> ?_) (fun c w' s M G=>by first | exact absurd s.2.1 (by decide) | exact ⟨111,vl (by omega) (by have :=of_decide_eq_false s.2.1; omega),s.1,by rw [s.2.2]; exact av⟩)))))
 obtain ⟨rfl,bp,rfl⟩:=aZ
 exact nl (tn (⟨(.inl (by omega)),rfl,rfl,rfl,rfl,rfl⟩))
 refine pg rfl rfl rfl (ao (.slice A r.length C) rfl) (pg rfl rfl rfl (bm dI rfl rfl) (pg rfl rfl rfl (ba rfl rfl) (p (a7 rfl) (eP rfl (bq dK (dP H.rb ln _ 111 w6 hln6 (by decide)) rfl fun cS w25 aZ=> ?_) (fun c w' s M G=>by first | exact absurd s.2.1 (by decide) | exact ⟨111,vl (by omega) (by have :=of_decide_eq_false s.2.1; omega),s.1,by rw [s.2.2]; exact av⟩)))))
 obtain ⟨rfl,bp,rfl⟩:=aZ
 exact nl (tn (⟨(.inr (by have :=of_decide_eq_true bp; omega)),rfl,rfl,rfl,rfl,rfl⟩))
 rintro aq wC ⟨hlen,bW,ct,cu,cv,cx⟩
 refine fx 0 ct (fx 2 cu (fx 4 cv (fx 6 cx ?_)))
 subst bW
 have hq4:=aF.md.B bR
 refine sq (fun c0 b1=>rg rfl (p (fa nH rfl) (p (ld cX rfl ((hq4.aw 1).trans rfl)) (p (fa pF rfl) (p (ld bc rfl ((hq4.aw 0).trans rfl)) (p (fa tp rfl) (p (ld q4 rfl ((hq4.aw 2).trans rfl)) ?_)))))))
 refine p (bZ (ps:= [(0,.int .i64 (c.kind:Nat)),(1,ay c.flag),(2,.bool c.gx),(5,str [46])]) (L:= [.int .i64 (c.kind:Nat),ay c.flag,.bool c.gx,.string ⟨⟨[]⟩⟩,.string ⟨⟨[]⟩⟩,str [46],.slice none 0 0]) FN rfl (rfl)) (e (al qN fun b7 w7 c9 aH bS=> ?_))
 have hz7:=aH.size
 refine e (bC o7 rfl rfl rfl rfl (bS) (by simp) fun wt2_8 aC bP=> ?_)
 have ax:Wk w wt2_8:=(av.trans aH.md).trans' aC (fun k hk h=>by omega)
 have hb48:=aC.B (aH.md.B hq4) (fun h=>by omega)
 have hb68:=aC.B (aH.md.B hB6) (fun h=>by omega)
 have hz8:=aC.size
 have hT8s:=(hT.wk ax).bL
 have dd:(r.getD 2 []).length≤70000:=hrl.2 _ (dW (by omega))
 have de:(r.getD 3 []).length≤70000:=hrl.2 _ (dW (by omega))
 refine nl (tn (b1 _ _ (sq (fun c1 b2=>rg rfl (p (ao (.pointer (some ⟨H.rb,0,none⟩)) rfl) (p (ao (.slice A r.length C) rfl) (p (aG bU rfl rfl (by omega) (aj.ok (hT8s.2) (bN (by omega)))) (p (ld bY rfl (bB.get (i:=2) hT8s.2 (by omega))) ?_))))))))
 refine eP rfl (bq rC (uV H.rb ln (r.getD 2 []) wt2_8 (Wk.aw ax E.cw) (by omega)) rfl fun dh w37 b6=> ?_) (fun c w' s M G=>by obtain ⟨e,he,h,h2⟩:=s; exact ⟨e,by rw [j6 hlen,he],h,ax.trans h2⟩)
 obtain ⟨stx,bF,rfl,ag⟩:=b6
 refine p (fa BL rfl) (e (st ku rfl rfl (rfl) (ag.B bP) (by simp) fun wt3_6 aD bQ=> ?_))
 have a8:a9 wt3_6.heap b7 [.int .i64 (c.kind:Nat),ay c.flag,.bool c.gx,str stx,str [],str [46],.slice none 0 0]:=bQ
 have bb:Wk w wt3_6:=(ax.trans ag).trans' aD (fun k hk h=>by omega)
 have hz37:=ag.size
 have hb43:=aD.B (ag.B hb48) (fun h=>by omega)
 have hb63:=aD.B (ag.B hb68) (fun h=>by omega)
 have hT3s:=(hT.wk bb).bL
 have hz3:=aD.size
 refine nl (tn (b2 _ _ (sq (fun c2 b3=>rg rfl (p (ao (.slice A r.length C) rfl) (p (aG bU rfl rfl (by omega) (aj.ok (hT3s.2) (bN (by omega)))) (p (ld bY rfl (bB.get (i:=3) hT3s.2 (by omega))) (e (cl oT (qL (r.getD 3 []) _ (by omega)) rfl fun di w43 b8=> ?_)))))))))
 obtain ⟨rfl,hE43⟩:=b8
 have hE4:=bb.trans hE43
 have hwl:=oA (r.getD 3 [])
 refine p mv (p (xt rfl rfl) (p (xt rfl rfl) (p (xt rfl rfl) (p (xt rfl rfl) (p ak (p ak (p ak ?_)))))))
 refine p ak (nl (tn (b3 _ _ (sq (fun c3 b4=>rg rfl (p (ao (.pointer (some ⟨H.rb,0,none⟩)) rfl) (p mv (eP rfl (bq iG (iU H.rb ln ((aV (r.getD 3 [])).2.2.2:Nat) w43 (Wk.aw hE4 E.cw)) rfl fun dj cV b9=> ?_) (fun c w' s M G=>⟨_,by rw [j6 hlen,bF,xd (show (aV (r.getD 3 [])).2.2.2≠0 by have :=s.2.1; omega)],s.1,by rw [s.2.2]; exact hE4⟩)))))))))
 obtain ⟨rfl,aJ,rfl⟩:=b9
 have aJ:(aV (r.getD 3 [])).2.2.2=0:=by omega
 refine nl (tn (b4 _ _ ?_))
 refine c6 (fun O ac=> ∃ (U:Tx),(iw (aV (r.getD 3 []))= .ok U)∧(a9 ac.heap b7 [.int .i64 (c.kind:Nat),ay c.flag,.bool c.gx,str stx,str U,str [46],.slice none 0 0])∧(a9 ac.heap aL (jq c))∧(∃ L,L.length=7∧a9 ac.heap Y L)∧(Wk w ac)∧(O 0= .pointer (some ⟨H.rb,0,none⟩))∧(O 2= .slice A r.length C)∧(O 4= .pointer (some ⟨aL,0,none⟩))∧(O 6= .pointer (some ⟨Y,0,none⟩))∧(O 7= .pointer (some ⟨b7,0,none⟩))∧(O 9=str (aV (r.getD 3 [])).2.1)∧(O 10= .bool (aV (r.getD 3 [])).2.2.1)) ?_ ?_
 refine sq (fun aK Z=>rg rfl (p mv (p (mo rfl rfl) (nl (tn (Z _ _ (cd rfl (fun aI=> ?_) (fun aI=> ?_))))))))
 refine rg rfl (p (ao (.pointer (some ⟨H.rb,0,none⟩)) rfl) (p mv (eP rfl (bq rG (u6 H.rb ln (aV (r.getD 3 [])).1 cV (Wk.aw hE4 E.cw) (by omega)) rfl fun dk dt ca=> ?_) (fun c w' s M G=>⟨_,by rw [j6 hlen,bF,xe aJ aI s.2.1],s.1,hE4.trans s.2.2⟩))))
 obtain ⟨rfl,cO,ah⟩:=ca
 refine p (fa BM rfl) (e (st ku rfl rfl (rfl) (Wk.B (hE43.trans ah) a8) (by simp) fun wt7_4 aY bT=> ?_))
 have hE7:Wk w wt7_4:=(hE4.trans ah).trans' aY (fun k hk h=>by omega)
 have hz5:=(hE43.trans ah).size
 exact nl (tn (⟨(aV (r.getD 3 [])).1,(xf aJ aI cO),bT,(aY.B (Wk.B (hE43.trans ah) hb43) (fun h=>by omega)),(⟨_,rfl,aY.B (Wk.B (hE43.trans ah) hb63) (fun h=>by omega)⟩),hE7,rfl,rfl,rfl,rfl,rfl,rfl,rfl⟩))
 exact az (tn (⟨[],(xg aJ (Classical.not_not.1 aI)),(hE43.B a8),(hE43.B hb43),(⟨_,rfl,hE43.B hb63⟩),hE4,rfl,rfl,rfl,rfl,rfl,rfl,rfl⟩))
 rintro O ac ⟨U,am,au,ck,bk,I,cy,cA,cB,cC,cD,cE,cz⟩
 refine fx 0 cy (fx 2 cA (fx 4 cB (fx 6 cC (fx 7 cD (fx 9 cE (fx 10 cz ?_))))))
 skip
 refine c6 (fun ar J=> ∃ (nx:List Nat) (vn:Value),(iV F.kind F.aliases c.kind (aV (r.getD 3 []))= .ok nx)∧(a9 J.heap b7 [.int .i64 (c.kind:Nat),ay c.flag,.bool c.gx,str stx,str U,str [46],vn])∧(Tg J (b7+1) 71 nx.length vn (nx.map ay))∧(∃ L,L.length=7∧a9 J.heap Y L)∧(Wk w J)∧(ar 0= .pointer (some ⟨H.rb,0,none⟩))∧(ar 2= .slice A r.length C)∧(ar 6= .pointer (some ⟨Y,0,none⟩))∧(ar 7= .pointer (some ⟨b7,0,none⟩))) ?_ ?_
 refine sq (fun aK Z=>rg rfl (p (ao (.bool (aV (r.getD 3 [])).2.2.1) rfl) (nl (tn (Z _ _ (cb rfl (fun an=> ?_) (fun an=> ?_)))))))
 skip
 refine sq (fun bx aR=>rg rfl (p (ao (.pointer (some ⟨H.rb,0,none⟩)) rfl) (p (fa nH rfl) (p (ld cX rfl ((ck.aw 1).trans rfl)) (p (ba rfl rfl) (eP rfl (bq dK (dP H.rb ln _ 118 ac (Wk.aw I E.cw) (by decide)) rfl fun dl bt cc=> ?_) (fun ad w' s M G=>by have h0:=of_decide_eq_false s.2.1; exact ⟨118,by rw [j6 hlen,bF]; simp only; rw [am]; simp only; rw [DP an (by omega)],s.1,by rw [s.2.2]; exact I⟩)))))))
 obtain ⟨rfl,hx62,rfl⟩:=cc
 have hx62:=of_decide_eq_true hx62
 refine nl (tn (aR _ _ (sq (fun bA aS=>rg rfl (p (ao (.pointer (some ⟨H.rb,0,none⟩)) rfl) (p (nc rfl) (p (fa dE rfl) (p (ld dq rfl (Wk.aw I ((aM E.cells).trans rfl))) ?_))))))))
 refine p (ao (str (aV (r.getD 3 [])).2.1) rfl) (e (cl r3 (sY B H.fb H.mc F V (aV (r.getD 3 [])).2.1 _ (G.wk I) aN.kd aN.al (by have :=aN.len; omega) (by have :=oA (r.getD 3 []); omega)) rfl fun cU bv ce=> ?_))
 obtain ⟨cp,aa⟩:=ce
 obtain ⟨a5,a6,rfl,hcs⟩:∃ a,∃ e:Nat,cU= .tuple #[a,.int .i64 (e:Nat)]∧((e=0∧∃ l,dN F.kind F.aliases (aV (r.getD 3 [])).2.1= .ok l∧World.ownsRow bv bt.heap.size 71 1 a l.length (l.map ay))∨(e≠0∧dN F.kind F.aliases (aV (r.getD 3 [])).2.1= .error e)):=by
  rcases cp with ⟨a,l,h1,h2,h3⟩ | ⟨a,e,h1,h2,h3⟩
  exact ⟨a,0,h1,.inl ⟨rfl,l,h2,h3⟩⟩
  exact ⟨a,e,h1,.inr ⟨h2,h3⟩⟩
 refine p mv (p (xt rfl rfl) (p (xt rfl rfl) (p ak (p ak (nl (tn (aS _ _ (sq (fun bD aT=> ?_)))))))))
 refine rg rfl (p (ao (.pointer (some ⟨H.rb,0,none⟩)) rfl) (p mv ?_))
 refine eP rfl (bq iG (iU H.rb ln (a6:Nat) bv (Wk.aw (I.trans aa) E.cw)) rfl fun dm cY cf=> ?_) (fun ad w' s M G=>by
  rcases hcs with ⟨h,_⟩ | ⟨h,h1⟩
  exact absurd (by omega) s.2.1
  exact ⟨a6,by rw [j6 hlen,bF]; simp only; rw [am]; simp only; rw [uA an (by omega),h1],s.1,by rw [s.2.2]; exact I.trans aa⟩)
 obtain ⟨rfl,dg,rfl⟩:=cf
 obtain ⟨nx,hnx,a0⟩:∃ l,dN F.kind F.aliases (aV (r.getD 3 [])).2.1= .ok l∧World.ownsRow cY bt.heap.size 71 1 a5 l.length (l.map ay):=by
  rcases hcs with ⟨_,h⟩ | ⟨h,_⟩
  exact h
  exact absurd (by omega) h
 refine nl (tn (aT _ _ (rg rfl (p mv (p (fa nG rfl) (e (st nq rfl rfl (dx a0) (aa.B au) (by simp) fun wt12_2 aW bI=> ?_)))))))
 have hE12:Wk w wt12_2:=(I.trans aa).trans' aW (fun k hk h=>by omega)
 have hz69:=aa.size
 exact nl (tn (⟨nx,a5,((by rw [uA an (by omega)]; exact hnx)),bI,(((Tg.fU (bu a0 aW (fun k hk h=>by have :=cM a0 hk; have :=au.lt; omega))).mono au.lt)),((by obtain ⟨L,aU,hb⟩:=bk; exact ⟨L,aU,aW.B (aa.B hb) (fun h=>by omega)⟩)),hE12,rfl,rfl,rfl,rfl⟩))
 exact az (tn (⟨[],.slice none 0 0,(DQ (by simpa using an)),au,(⟨none,0,rfl,Nat.le_refl _,.inl rfl⟩),bk,I,rfl,rfl,rfl,rfl⟩))
 rintro ar J ⟨nx,vn,hnx,aO,bj,bn,ai,cF,cG,cH,cJ⟩
 refine fx 0 cF (fx 2 cG (fx 6 cH (fx 7 cJ ?_)))
 refine c6 (fun a4 ap=> ∃ (ae:Tx),(iH r= .ok ae)∧(a9 ap.heap b7 [.int .i64 (c.kind:Nat),ay c.flag,.bool c.gx,str stx,str U,str ae,vn])∧(Tg ap (b7+1) 71 nx.length vn (nx.map ay))∧(∃ L,L.length=7∧a9 ap.heap Y L)∧(Wk w ap)∧(a4 6= .pointer (some ⟨Y,0,none⟩))∧(a4 7= .pointer (some ⟨b7,0,none⟩))) ?_ ?_
 refine sq (fun aK Z=>rg rfl (p (ao (.slice A r.length C) rfl) (p (bm dI rfl rfl) (p (ba rfl rfl) (nl (tn (Z _ _ (cd rfl (fun co=> ?_) (fun co=> ?_)))))))))
 have a2:r.length=5:=by omega
 have df:(r.getD 4 []).length≤70000:=hrl.2 _ (dW (by omega))
 have hTDs:=(hT.wk ai).bL
 refine sq (fun bx aR=>rg rfl (p (ao (.pointer (some ⟨H.rb,0,none⟩)) rfl) (p (ao (.slice A r.length C) rfl) (p (aG bU rfl rfl (by omega) (aj.ok (hTDs.2) (bN (by omega)))) (p (ld bY rfl (bB.get (i:=4) hTDs.2 (by omega))) (eP rfl (bq oV (qo H.rb ln (r.getD 4 []) J (Wk.aw ai E.cw) (by omega)) rfl fun dn du cg=> ?_) (fun ad w' s M G=>⟨21,by rw [j6 hlen,bF]; simp only; rw [am]; simp only; rw [hnx]; simp only; rw [zM a2 s.2.1],s.1,ai.trans s.2.2⟩)))))))
 obtain ⟨rfl,br,aQ⟩:=cg
 have hE84x:=ai.trans aQ
 have hTEs:=(hT.wk hE84x).bL
 refine nl (tn (aR _ _ (sq (fun bA aS=>rg rfl (p (ao (.slice A r.length C) rfl) (p (aG bU rfl rfl (by omega) (aj.ok (hTEs.2) (bN (by omega)))) (p (ld bY rfl (bB.get (i:=4) hTEs.2 (by omega))) (e (cl x5 (zV (r.getD 4 []) _ (by omega)) rfl fun dp dv ch=> ?_)))))))))
 obtain ⟨⟨c5,rfl,a1⟩,hE89⟩:=ch
 obtain ⟨cP,cQ,rfl⟩:=db a1
 have hE89x:=hE84x.trans hE89
 refine p mv (p (xt rfl rfl) (p (xt rfl rfl) (e (al qO fun c7 w14 hb14 aE bJ=> ?_))))
 have hE14:=hE89x.trans aE.md
 refine e (bC kt rfl rfl rfl rfl (bJ) (by simp) fun wt15_8 ab bK=> ?_)
 have aP:Wk w wt15_8:=hE14.trans' ab (fun k hk h=>by have :=hE89x.size; omega)
 have a3:Wk J w14:=(aQ.trans hE89).trans aE.md
 have hzD:=aQ.size
 have hzE:=hE89.size
 have hzF:=aE.size
 have hzG:=ab.size
 have cN:Wk J wt15_8:=a3.trans' ab (fun k hk h=>by omega)
 refine p ak (nl (tn (aS _ _ (sq (fun bD aT=>rg rfl (p (ao (.pointer (some ⟨H.rb,0,none⟩)) rfl) (p mv (eP rfl (bq iG (iU H.rb ln ((dy (r.getD 4 [])).2:Nat) wt15_8 (Wk.aw aP E.cw)) rfl fun dr dw ci=> ?_) (fun ad w' s M G=>⟨_,by rw [j6 hlen,bF]; simp only; rw [am]; simp only; rw [hnx]; simp only; rw [zN a2 br (by have :=s.2.1; omega)],s.1,by rw [s.2.2]; exact aP⟩)))))))))
 obtain ⟨rfl,bs,rfl⟩:=ci
 have bs:(dy (r.getD 4 [])).2=0:=by omega
 refine nl (tn (aT _ _ (rg rfl (p (da jP rfl (rfl) (fun j bo=>bK.bE j)) (e (cl x6 (EE (dy (r.getD 4 [])).1 cP cQ _ (aj.md (aj.wk (aA a1).2 aE.md) ab (fun hne h=>by have :=Ef a1 hne; omega)) (by have :=zU (r.getD 4 []); omega)) rfl fun ds w96 cj=> ?_))))))
 obtain ⟨rfl,hE96⟩:=cj
 have hE96x:=aP.trans hE96
 have hz96:=hE96.size
 refine p (fa BN rfl) (e (st ku rfl rfl (rfl) (hE96.B (ab.B (a3.B aO) (fun h=>by have :=aO.lt; omega))) (by simp) fun wt17_3 aX bM=> ?_))
 have hE17:Wk w wt17_3:=hE96x.trans' aX (fun k hk h=>by omega)
 exact nl (tn (⟨lC (dy (r.getD 4 [])).1,(zO a2 br bs),bM,((Tg.uw (Tg.wk bj (cN.trans hE96)) aX (fun k hk=>by omega))),((by obtain ⟨L,aU,hb⟩:=bn; exact ⟨L,aU,aX.B (hE96.B (ab.B (a3.B hb) (fun h=>by have :=hb.lt; omega))) (fun h=>by omega)⟩)),hE17,rfl,rfl⟩))
 exact az (tn (⟨[46],(zP (by omega)),aO,bj,bn,ai,rfl,rfl⟩))
 rintro a4 ap ⟨ae,cq,bV,bi,cm,bX,cK,cL⟩
 refine fx 6 cK (fx 7 cL ?_)
 obtain ⟨c4,b5,cn⟩:=cm
 obtain ⟨bG,bH,rfl⟩:=bi.slice
 refine sq (fun aK Z=>rg rfl (p (da oF rfl (rfl) (fun j bo=>bV.bE j)) (e (bC o7 rfl rfl rfl rfl (cn) (by rw [b5]; decide) fun dz bf bO=>nl (tn (Z _ _ (rt (eM ?_))))))))
 exact l3 rfl (cW (cs:=fW (⟨c.kind,c.flag,c.gx,stx,U,ae,nx,ln⟩,.slice bG nx.length bH)) rfl oF rfl (fun j bo=>by rw [bO.bE j,List.drop_eq_nil_of_le (by omega),List.append_nil]; rfl)) (⟨⟨c.kind,c.flag,c.gx,stx,U,ae,nx,ln⟩,by rw [j6 hlen,bF]; simp only; rw [am]; simp only; rw [hnx]; simp only; rw [cq],rfl,⟨_,rfl,(Tg.uw bi bf (fun k hk=>by have :=aF.size; omega)).mono (by omega)⟩,bX.trans' bf (fun k hk h=>by omega)⟩)
end Go.Hb.fz
end
section
set_option maxRecDepth 20000
set_option maxHeartbeats 1000000
namespace Go.Hb.jL
open Go.Hb.cG
open Go.Proofs
open Go.Hb.eJ
def dO (s:Tx):Option Value:=if s=bM then some (Value.agg #[.int .i64 (4:Nat),.func (.func 65) #[] #[]]) else if s=eR then some (Value.agg #[.int .i64 (4:Nat),.func (.func 65) #[] #[]]) else if s=eO then some (Value.agg #[.int .i64 (2:Nat),.func (.func 64) #[] #[]]) else if s=e6 then some (Value.agg #[.int .i64 (2:Nat),.func (.func 63) #[] #[]]) else if s=gD then some (Value.agg #[.int .i64 (2:Nat),.func (.func 62) #[] #[]]) else if s=gn then some (Value.agg #[.int .i64 (2:Nat),.func (.func 61) #[] #[]]) else if s=fR then some (Value.agg #[.int .i64 (2:Nat),.func (.func 61) #[] #[]]) else if s=fJ then some (Value.agg #[.int .i64 (2:Nat),.func (.func 61) #[] #[]]) else if s=fC then some (Value.agg #[.int .i64 (2:Nat),.func (.func 61) #[] #[]]) else if s=fq then some (Value.agg #[.int .i64 (2:Nat),.func (.func 61) #[] #[]]) else if s=e7 then some (Value.agg #[.int .i64 (2:Nat),.func (.func 60) #[] #[]]) else if s=eW then some (Value.agg #[.int .i64 (2:Nat),.func (.func 59) #[] #[]]) else if s=eQ then some (Value.agg #[.int .i64 (2:Nat),.func (.func 58) #[] #[]]) else none
def zF:Value→Option Value:=fun _=>none
def zG:Tx→Option Value:=fun _=>none
theorem str_inj {a b:Tx} :str a=str b↔a=b:=⟨fun h=>by unfold str at h; cases h; rfl,fun h=>by rw [h]⟩
theorem gG {f:Value→Option Value} {g:Tx→Option Value} {k:Tx} {v:Value} (h:∀ s,f (str s)=g s) (s:Tx):aW f (str k) v (str s)=if s=k then some v else g s:=by
 by_cases hs:s=k
 · subst hs; rw [mx,if_pos rfl]
 · rw [lB (fun h2=>hs (str_inj.1 h2)),if_neg hs,h s]
theorem Cr (w:World):
 aK Tryz.prog 32 (List.toArray []) w (fun v w'=> ∃ b,v= .map (some b)∧b=w.heap.size∧(∃ f,bf w'.heap b ew f∧∀ s,f (str s)=dO s)∧Wk w w'):=by
 refine enter Tryz.func32 rfl Tryz.ntmps32 rfl ?_
 refine aa (fun _ c=>(ae (((c _ _ (aa (fun _ i=>(e (mj fun a w1 aS an hB1=> ?_)))))))))
 have ao:bf w1.heap a ew zF:=bf.nil hB1
 have aT:∀ s:Tx,zF (str s)=zG s:=fun _=>rfl
 have j:Wk w w1:=an.md
 refine p (bZ (ps:= [(0,U 2),(1,.func (.func 58) #[] #[])]) (L:= [U 2,.func (.func 58) #[] #[]]) gM rfl (rfl)) (e (gC gq ef (ao) rfl rfl rfl (⟨_,rfl⟩) fun wm1_2 ad aw=> ?_))
 have aE:bf wm1_2.heap a ew (aW zF (str eQ) (Value.agg #[U 2,.func (.func 58) #[] #[]])):=aw
 have hg1:=gG (k:=eQ) (v:=Value.agg #[U 2,.func (.func 58) #[] #[]]) aT
 have q:Wk w wm1_2:=j.trans' ad (fun k hk h=>by omega)
 refine p (bZ (ps:= [(0,U 2),(1,.func (.func 59) #[] #[])]) (L:= [U 2,.func (.func 59) #[] #[]]) gM rfl (rfl)) (e (gC gq ef (aE) rfl rfl rfl (⟨_,rfl⟩) fun wm1_4 ak aB=> ?_))
 have aF:bf wm1_4.heap a ew (aW (aW zF (str eQ) (Value.agg #[U 2,.func (.func 58) #[] #[]])) (str eW) (Value.agg #[U 2,.func (.func 59) #[] #[]])):=aB
 have hg2:=gG (k:=eW) (v:=Value.agg #[U 2,.func (.func 59) #[] #[]]) hg1
 have G:Wk w wm1_4:=q.trans' ak (fun k hk h=>by omega)
 refine p (bZ (ps:= [(0,U 2),(1,.func (.func 60) #[] #[])]) (L:= [U 2,.func (.func 60) #[] #[]]) gM rfl (rfl)) (e (gC gq ef (aF) rfl rfl rfl (⟨_,rfl⟩) fun wm1_6 al aC=> ?_))
 have aJ:bf wm1_6.heap a ew (aW (aW (aW zF (str eQ) (Value.agg #[U 2,.func (.func 58) #[] #[]])) (str eW) (Value.agg #[U 2,.func (.func 59) #[] #[]])) (str e7) (Value.agg #[U 2,.func (.func 60) #[] #[]])):=aC
 have hg3:=gG (k:=e7) (v:=Value.agg #[U 2,.func (.func 60) #[] #[]]) hg2
 have I:Wk w wm1_6:=G.trans' al (fun k hk h=>by omega)
 refine p (bZ (ps:= [(0,U 2),(1,.func (.func 61) #[] #[])]) (L:= [U 2,.func (.func 61) #[] #[]]) gM rfl (rfl)) (e (gC gq ef (aJ) rfl rfl rfl (⟨_,rfl⟩) fun wm1_8 am aD=> ?_))
 have aL:bf wm1_8.heap a ew (aW (aW (aW (aW zF (str eQ) (Value.agg #[U 2,.func (.func 58) #[] #[]])) (str eW) (Value.agg #[U 2,.func (.func 59) #[] #[]])) (str e7) (Value.agg #[U 2,.func (.func 60) #[] #[]])) (str fq) (Value.agg #[U 2,.func (.func 61) #[] #[]])):=aD
 have hg4:=gG (k:=fq) (v:=Value.agg #[U 2,.func (.func 61) #[] #[]]) hg3
 have hE4:Wk w wm1_8:=I.trans' am (fun k hk h=>by omega)
 refine p (bZ (ps:= [(0,U 2),(1,.func (.func 61) #[] #[])]) (L:= [U 2,.func (.func 61) #[] #[]]) gM rfl (rfl)) (e (gC gq ef (aL) rfl rfl rfl (⟨_,rfl⟩) fun wm1_10 V ap=> ?_))
 have aM:bf wm1_10.heap a ew (aW (aW (aW (aW (aW zF (str eQ) (Value.agg #[U 2,.func (.func 58) #[] #[]])) (str eW) (Value.agg #[U 2,.func (.func 59) #[] #[]])) (str e7) (Value.agg #[U 2,.func (.func 60) #[] #[]])) (str fq) (Value.agg #[U 2,.func (.func 61) #[] #[]])) (str fC) (Value.agg #[U 2,.func (.func 61) #[] #[]])):=ap
 have hg5:=gG (k:=fC) (v:=Value.agg #[U 2,.func (.func 61) #[] #[]]) hg4
 have hE5:Wk w wm1_10:=hE4.trans' V (fun k hk h=>by omega)
 refine p (bZ (ps:= [(0,U 2),(1,.func (.func 61) #[] #[])]) (L:= [U 2,.func (.func 61) #[] #[]]) gM rfl (rfl)) (e (gC gq ef (aM) rfl rfl rfl (⟨_,rfl⟩) fun wm1_12 Y aq=> ?_))
 have aN:bf wm1_12.heap a ew (aW (aW (aW (aW (aW (aW zF (str eQ) (Value.agg #[U 2,.func (.func 58) #[] #[]])) (str eW) (Value.agg #[U 2,.func (.func 59) #[] #[]])) (str e7) (Value.agg #[U 2,.func (.func 60) #[] #[]])) (str fq) (Value.agg #[U 2,.func (.func 61) #[] #[]])) (str fC) (Value.agg #[U 2,.func (.func 61) #[] #[]])) (str fJ) (Value.agg #[U 2,.func (.func 61) #[] #[]])):=aq
 have hg6:=gG (k:=fJ) (v:=Value.agg #[U 2,.func (.func 61) #[] #[]]) hg5
 have J:Wk w wm1_12:=hE5.trans' Y (fun k hk h=>by omega)
 refine p (bZ (ps:= [(0,U 2),(1,.func (.func 61) #[] #[])]) (L:= [U 2,.func (.func 61) #[] #[]]) gM rfl (rfl)) (e (gC gq ef (aN) rfl rfl rfl (⟨_,rfl⟩) fun wm1_14 Z ar=> ?_))
 have aO:bf wm1_14.heap a ew (aW (aW (aW (aW (aW (aW (aW zF (str eQ) (Value.agg #[U 2,.func (.func 58) #[] #[]])) (str eW) (Value.agg #[U 2,.func (.func 59) #[] #[]])) (str e7) (Value.agg #[U 2,.func (.func 60) #[] #[]])) (str fq) (Value.agg #[U 2,.func (.func 61) #[] #[]])) (str fC) (Value.agg #[U 2,.func (.func 61) #[] #[]])) (str fJ) (Value.agg #[U 2,.func (.func 61) #[] #[]])) (str fR) (Value.agg #[U 2,.func (.func 61) #[] #[]])):=ar
 have hg7:=gG (k:=fR) (v:=Value.agg #[U 2,.func (.func 61) #[] #[]]) hg6
 have hE7:Wk w wm1_14:=J.trans' Z (fun k hk h=>by omega)
 refine p (bZ (ps:= [(0,U 2),(1,.func (.func 61) #[] #[])]) (L:= [U 2,.func (.func 61) #[] #[]]) gM rfl (rfl)) (e (gC gq ef (aO) rfl rfl rfl (⟨_,rfl⟩) fun wm1_16 ab au=> ?_))
 have aP:bf wm1_16.heap a ew (aW (aW (aW (aW (aW (aW (aW (aW zF (str eQ) (Value.agg #[U 2,.func (.func 58) #[] #[]])) (str eW) (Value.agg #[U 2,.func (.func 59) #[] #[]])) (str e7) (Value.agg #[U 2,.func (.func 60) #[] #[]])) (str fq) (Value.agg #[U 2,.func (.func 61) #[] #[]])) (str fC) (Value.agg #[U 2,.func (.func 61) #[] #[]])) (str fJ) (Value.agg #[U 2,.func (.func 61) #[] #[]])) (str fR) (Value.agg #[U 2,.func (.func 61) #[] #[]])) (str gn) (Value.agg #[U 2,.func (.func 61) #[] #[]])):=au
 have hg8:=gG (k:=gn) (v:=Value.agg #[U 2,.func (.func 61) #[] #[]]) hg7
 have M:Wk w wm1_16:=hE7.trans' ab (fun k hk h=>by omega)
 refine p (bZ (ps:= [(0,U 2),(1,.func (.func 62) #[] #[])]) (L:= [U 2,.func (.func 62) #[] #[]]) gM rfl (rfl)) (e (gC gq ef (aP) rfl rfl rfl (⟨_,rfl⟩) fun wm1_18 ac av=> ?_))
 have aQ:bf wm1_18.heap a ew (aW (aW (aW (aW (aW (aW (aW (aW (aW zF (str eQ) (Value.agg #[U 2,.func (.func 58) #[] #[]])) (str eW) (Value.agg #[U 2,.func (.func 59) #[] #[]])) (str e7) (Value.agg #[U 2,.func (.func 60) #[] #[]])) (str fq) (Value.agg #[U 2,.func (.func 61) #[] #[]])) (str fC) (Value.agg #[U 2,.func (.func 61) #[] #[]])) (str fJ) (Value.agg #[U 2,.func (.func 61) #[] #[]])) (str fR) (Value.agg #[U 2,.func (.func 61) #[] #[]])) (str gn) (Value.agg #[U 2,.func (.func 61) #[] #[]])) (str gD) (Value.agg #[U 2,.func (.func 62) #[] #[]])):=av
 have hg9:=gG (k:=gD) (v:=Value.agg #[U 2,.func (.func 62) #[] #[]]) hg8
 have O:Wk w wm1_18:=M.trans' ac (fun k hk h=>by omega)
 refine p (bZ (ps:= [(0,U 2),(1,.func (.func 63) #[] #[])]) (L:= [U 2,.func (.func 63) #[] #[]]) gM rfl (rfl)) (e (gC gq ef (aQ) rfl rfl rfl (⟨_,rfl⟩) fun wm1_20 ag ax=> ?_))
 have aR:bf wm1_20.heap a ew (aW (aW (aW (aW (aW (aW (aW (aW (aW (aW zF (str eQ) (Value.agg #[U 2,.func (.func 58) #[] #[]])) (str eW) (Value.agg #[U 2,.func (.func 59) #[] #[]])) (str e7) (Value.agg #[U 2,.func (.func 60) #[] #[]])) (str fq) (Value.agg #[U 2,.func (.func 61) #[] #[]])) (str fC) (Value.agg #[U 2,.func (.func 61) #[] #[]])) (str fJ) (Value.agg #[U 2,.func (.func 61) #[] #[]])) (str fR) (Value.agg #[U 2,.func (.func 61) #[] #[]])) (str gn) (Value.agg #[U 2,.func (.func 61) #[] #[]])) (str gD) (Value.agg #[U 2,.func (.func 62) #[] #[]])) (str e6) (Value.agg #[U 2,.func (.func 63) #[] #[]])):=ax
 have hg10:=gG (k:=e6) (v:=Value.agg #[U 2,.func (.func 63) #[] #[]]) hg9
 have A:Wk w wm1_20:=O.trans' ag (fun k hk h=>by omega)
 refine p (bZ (ps:= [(0,U 2),(1,.func (.func 64) #[] #[])]) (L:= [U 2,.func (.func 64) #[] #[]]) gM rfl (rfl)) (e (gC gq ef (aR) rfl rfl rfl (⟨_,rfl⟩) fun wm1_22 ah ay=> ?_))
 have aG:bf wm1_22.heap a ew (aW (aW (aW (aW (aW (aW (aW (aW (aW (aW (aW zF (str eQ) (Value.agg #[U 2,.func (.func 58) #[] #[]])) (str eW) (Value.agg #[U 2,.func (.func 59) #[] #[]])) (str e7) (Value.agg #[U 2,.func (.func 60) #[] #[]])) (str fq) (Value.agg #[U 2,.func (.func 61) #[] #[]])) (str fC) (Value.agg #[U 2,.func (.func 61) #[] #[]])) (str fJ) (Value.agg #[U 2,.func (.func 61) #[] #[]])) (str fR) (Value.agg #[U 2,.func (.func 61) #[] #[]])) (str gn) (Value.agg #[U 2,.func (.func 61) #[] #[]])) (str gD) (Value.agg #[U 2,.func (.func 62) #[] #[]])) (str e6) (Value.agg #[U 2,.func (.func 63) #[] #[]])) (str eO) (Value.agg #[U 2,.func (.func 64) #[] #[]])):=ay
 have hg11:=gG (k:=eO) (v:=Value.agg #[U 2,.func (.func 64) #[] #[]]) hg10
 have C:Wk w wm1_22:=A.trans' ah (fun k hk h=>by omega)
 refine p (bZ (ps:= [(0,U 4),(1,.func (.func 65) #[] #[])]) (L:= [U 4,.func (.func 65) #[] #[]]) gM rfl (rfl)) (e (gC gq ef (aG) rfl rfl rfl (⟨_,rfl⟩) fun wm1_24 ai az=> ?_))
 have aH:bf wm1_24.heap a ew (aW (aW (aW (aW (aW (aW (aW (aW (aW (aW (aW (aW zF (str eQ) (Value.agg #[U 2,.func (.func 58) #[] #[]])) (str eW) (Value.agg #[U 2,.func (.func 59) #[] #[]])) (str e7) (Value.agg #[U 2,.func (.func 60) #[] #[]])) (str fq) (Value.agg #[U 2,.func (.func 61) #[] #[]])) (str fC) (Value.agg #[U 2,.func (.func 61) #[] #[]])) (str fJ) (Value.agg #[U 2,.func (.func 61) #[] #[]])) (str fR) (Value.agg #[U 2,.func (.func 61) #[] #[]])) (str gn) (Value.agg #[U 2,.func (.func 61) #[] #[]])) (str gD) (Value.agg #[U 2,.func (.func 62) #[] #[]])) (str e6) (Value.agg #[U 2,.func (.func 63) #[] #[]])) (str eO) (Value.agg #[U 2,.func (.func 64) #[] #[]])) (str eR) (Value.agg #[U 4,.func (.func 65) #[] #[]])):=az
 have hg12:=gG (k:=eR) (v:=Value.agg #[U 4,.func (.func 65) #[] #[]]) hg11
 have hE12:Wk w wm1_24:=C.trans' ai (fun k hk h=>by omega)
 refine p (bZ (ps:= [(0,U 4),(1,.func (.func 65) #[] #[])]) (L:= [U 4,.func (.func 65) #[] #[]]) gM rfl (rfl)) (e (gC gq ef (aH) rfl rfl rfl (⟨_,rfl⟩) fun wm1_26 aj aA=> ?_))
 have aI:bf wm1_26.heap a ew (aW (aW (aW (aW (aW (aW (aW (aW (aW (aW (aW (aW (aW zF (str eQ) (Value.agg #[U 2,.func (.func 58) #[] #[]])) (str eW) (Value.agg #[U 2,.func (.func 59) #[] #[]])) (str e7) (Value.agg #[U 2,.func (.func 60) #[] #[]])) (str fq) (Value.agg #[U 2,.func (.func 61) #[] #[]])) (str fC) (Value.agg #[U 2,.func (.func 61) #[] #[]])) (str fJ) (Value.agg #[U 2,.func (.func 61) #[] #[]])) (str fR) (Value.agg #[U 2,.func (.func 61) #[] #[]])) (str gn) (Value.agg #[U 2,.func (.func 61) #[] #[]])) (str gD) (Value.agg #[U 2,.func (.func 62) #[] #[]])) (str e6) (Value.agg #[U 2,.func (.func 63) #[] #[]])) (str eO) (Value.agg #[U 2,.func (.func 64) #[] #[]])) (str eR) (Value.agg #[U 4,.func (.func 65) #[] #[]])) (str bM) (Value.agg #[U 4,.func (.func 65) #[] #[]])):=aA
 have hg13:=gG (k:=bM) (v:=Value.agg #[U 4,.func (.func 65) #[] #[]]) hg12
 have E:Wk w wm1_26:=hE12.trans' aj (fun k hk h=>by omega)
 exact p mv (ae (((i _ _ (rt (f1 rfl rfl (⟨a,rfl,aS,⟨_,aI,fun s=>hg13 s⟩,E⟩)))))))
end Go.Hb.jL
end
section
set_option maxRecDepth 20000
set_option maxHeartbeats 1000000
namespace Go.Hb.im
open Go.Hb.cG
open Go.Proofs
open Go.Hb.eJ Go.Hb.fg Go.Hb.jg Go.Hb.fz Go.Hb.jj Go.Hb.gP Go.Hb.ke Go.Hb.fG Go.Hb.kP Go.Hb.lQ Go.Hb.fZ Go.Hb.fN
theorem bz.xC {w w1 c:World} {B fb mc:Nat} {F:aB} {V:cR} {v:Value} {x:Tx×Tx} (h:bz w B fb mc F V) (hm:Md (fun k=>V.v9.ownBlock=some k) w w1) (j:World.ownsRow w1 B 163 2 v (F.bH++ [x]).length (ic (F.bH++ [x]))) (a:Md (fun k=>k=fb) w1 c) (hc:c.heap[fb]? =some (.cells (iO {F with bH:=F.bH++ [x]} {V with v9:=v} mc).toArray 89 (0,0))):bz c B fb mc {F with bH:=F.bH++ [x]} {V with v9:=v} :=by
 have hT:TF w [165] (fun k=>V.v9.ownBlock=some k):=TF.own h.o9 (by decide)
 have hcl:=hm.gR hT h.cells (by decide)
 have hT2:TF w1 [91] (fun k=>k=fb):=TF.eq (cQ hcl) (by decide)
 have hfl:∀ k,V.v9.ownBlock=some k→∀ cur z,w.heap[k]?≠some (.cells cur 71 z):=e9 h.o9 (by decide)
 have i:∀ k,k=fb→∀ cur z,w1.heap[k]?≠some (.cells cur 71 z):=ep hcl (by decide)
 obtain ⟨f,hf,p⟩:=h.cm
 have hmt:=bW (hf.md hm (hT.no (bW hf) (by decide)))
 exact ⟨hc,bu j a (fun k hk hf=>cy j hcl (by decide) (hf ▸ hk)),ca (ca h.eH hm hT (by decide)) a hT2 (by decide),(h.al.md hm hfl).md a i,ca (ca h.dY hm hT (by decide)) a hT2 (by decide),ca (ca h.dG hm hT (by decide)) a hT2 (by decide),(h.nx.md hm hfl).md a i,⟨f,(hf.md hm (hT.no (bW hf) (by decide))).md a (hT2.no hmt (by decide)),p⟩,h.lo,h.fL⟩
theorem bz.xz {w w1 i:World} {B fb mc:Nat} {F:aB} {V:cR} {v:Value} {x:List Nat} {vx:Value} (h:bz w B fb mc F V) (q:Tg w B 71 x.length vx (x.map ay)) (hm:Md (fun k=>V.v10.ownBlock=some k) w w1) (j:World.ownsRow w1 B 54 1 v (F.aliases++ [x]).length ((V.sa++ [vx]))) (a:Md (fun k=>k=fb) w1 i) (hc:i.heap[fb]? =some (.cells (iO {F with aliases:=F.aliases++ [x]} {V with v10:=v,sa:=V.sa++ [vx]} mc).toArray 89 (0,0))):bz i B fb mc {F with aliases:=F.aliases++ [x]} {V with v10:=v,sa:=V.sa++ [vx]} :=by
 have hT:TF w [56] (fun k=>V.v10.ownBlock=some k):=TF.own h.eH (by decide)
 have hcl:=hm.gR hT h.cells (by decide)
 have hT2:TF w1 [91] (fun k=>k=fb):=TF.eq (cQ hcl) (by decide)
 have hfl:∀ k,V.v10.ownBlock=some k→∀ cur z,w.heap[k]?≠some (.cells cur 71 z):=e9 h.eH (by decide)
 have c:∀ k,k=fb→∀ cur z,w1.heap[k]?≠some (.cells cur 71 z):=ep hcl (by decide)
 obtain ⟨f,hf,p⟩:=h.cm
 have hmt:=bW (hf.md hm (hT.no (bW hf) (by decide)))
 exact ⟨hc,ca (ca h.o9 hm hT (by decide)) a hT2 (by decide),bu j a (fun k hk hf=>cy j hcl (by decide) (hf ▸ hk)),((h.al.md hm hfl).md a c).snoc ((q.md hm hfl).md a c),ca (ca h.dY hm hT (by decide)) a hT2 (by decide),ca (ca h.dG hm hT (by decide)) a hT2 (by decide),(h.nx.md hm hfl).md a c,⟨f,(hf.md hm (hT.no (bW hf) (by decide))).md a (hT2.no hmt (by decide)),p⟩,h.lo,h.fL⟩
theorem bz.xB {w w1 i:World} {B fb mc:Nat} {F:aB} {V:cR} {v:Value} {x:eE} {vx:Value} (h:bz w B fb mc F V) (q:Tg w B 71 x.next.length vx (x.next.map ay)) (hm:Md (fun k=>V.di.ownBlock=some k) w w1) (j:World.ownsRow w1 B 155 7 v (F.rules++ [x]).length (eI ((F.rules++ [x]).zip (V.rn++ [vx])))) (a:Md (fun k=>k=fb) w1 i) (hc:i.heap[fb]? =some (.cells (iO {F with rules:=F.rules++ [x]} {V with di:=v,rn:=V.rn++ [vx]} mc).toArray 89 (0,0))):bz i B fb mc {F with rules:=F.rules++ [x]} {V with di:=v,rn:=V.rn++ [vx]} :=by
 have hT:TF w [157] (fun k=>V.di.ownBlock=some k):=TF.own h.dG (by decide)
 have hcl:=hm.gR hT h.cells (by decide)
 have hT2:TF w1 [91] (fun k=>k=fb):=TF.eq (cQ hcl) (by decide)
 have hfl:∀ k,V.di.ownBlock=some k→∀ cur z,w.heap[k]?≠some (.cells cur 71 z):=e9 h.dG (by decide)
 have c:∀ k,k=fb→∀ cur z,w1.heap[k]?≠some (.cells cur 71 z):=ep hcl (by decide)
 obtain ⟨f,hf,p⟩:=h.cm
 have hmt:=bW (hf.md hm (hT.no (bW hf) (by decide)))
 exact ⟨hc,ca (ca h.o9 hm hT (by decide)) a hT2 (by decide),ca (ca h.eH hm hT (by decide)) a hT2 (by decide),(h.al.md hm hfl).md a c,ca (ca h.dY hm hT (by decide)) a hT2 (by decide),bu j a (fun k hk hf=>cy j hcl (by decide) (hf ▸ hk)),(by rw [List.map_append]; exact ((h.nx.md hm hfl).md a c).snoc ((q.md hm hfl).md a c)),⟨f,(hf.md hm (hT.no (bW hf) (by decide))).md a (hT2.no hmt (by decide)),p⟩,h.lo,h.fL⟩
theorem bg.own {w w':World} {B:Nat} {H:bd} {F:aB} {R:dD} {rows:List Rw} {ln:Nat} {seen:List Tx} {a e s n:Nat} {v:Value} {xs:List Value} (h:bg w B H F R rows ln seen) (i:World.ownsRow w a e s v n xs) (hm:Md (fun k=>v.ownBlock=some k) w w') (c:([e+2].contains 94 || [e+2].contains 107 || [e+2].contains 11 || [e+2].contains 5)=false):bg w' B H F R rows ln seen:=by
 have hT:TF w [e+2] (fun k=>v.ownBlock=some k):=TF.own i (by simp)
 obtain ⟨f,hf,_⟩:=h.sm
 obtain ⟨g,hg,_⟩:=h.tm
 exact h.md hm hT c (hT.no (bW hf) (by simp)) (hT.no (bW hg) (by simp))
theorem bg.nB {w w':World} {B:Nat} {H:bd} {F:aB} {R:dD} {rows:List Rw} {ln:Nat} {seen:List Tx} {cs:Array Value} {z:Nat×Nat} (h:bg w B H F R rows ln seen) (hc:w.heap[H.fb]? =some (.cells cs 89 z)) (hm:Md (fun k=>k=H.fb) w w'):bg w' B H F R rows ln seen:=by
 have hT:TF w [91] (fun k=>k=H.fb):=TF.eq (cQ hc) (by decide)
 obtain ⟨f,hf,a⟩:=h.sm
 obtain ⟨g,hg,hg2⟩:=h.tm
 exact h.md hm hT (by decide) (hT.no (bW hf) (by decide)) (hT.no (bW hg) (by decide))
theorem Tg.qf {w:World} {b e n:Nat} {L:List Value} {z:Nat×Nat} (h:w.heap[b]? =some (.cells L.toArray e z)) (hn:n=L.length):Tg w b e n (.slice (some ⟨b,0,none⟩) n n) L:=⟨_,_,rfl,Nat.le_refl _,.inr ⟨b,_,_,rfl,Nat.le_refl _,h,fun j u hu=>by simpa using hu⟩⟩
theorem fE.k6 {F:aB} {q:Rw} {rest:List Rw} {seen:List Tx} (h:fE F (q::rest) seen):fE F rest seen:=⟨by have :=h.len; simp only [List.length_cons] at this; omega,by have :=h.sl; simp only [List.length_cons] at this; omega,fun q2 h2=>h.row q2 (List.mem_cons_of_mem _ h2),h.kd,h.al⟩
theorem EW {eof ln e:Nat} {F:aB} {rows:List Rw} {r:List Tx} (h:cA (r.getD 1 []) 256= .error e):gH eof F rows ln r= .error (ln,e):=by unfold gH; rw [h]
theorem mA {eof ln n:Nat} {F:aB} {rows:List Rw} {r:List Tx} {e:Nat×Nat} (h:cA (r.getD 1 []) 256= .ok n) (h1:group [e6] gY eof n rows= .error e):gH eof F rows ln r= .error e:=by unfold gH; rw [h]; simp only; rw [h1]
theorem EX {eof ln n:Nat} {F:aB} {rows:List Rw} {r:List Tx} {q:List (Tx×Tx)×List Rw} (h:cA (r.getD 1 []) 256= .ok n) (h1:group [e6] gY eof n rows= .ok q):gH eof F rows ln r= .ok ({F with bH:=F.bH++q.1},q.2):=by unfold gH; rw [h]; simp only; rw [h1]
theorem qd {s:Tx} {most:Int} {n:Nat} (h:cA s most= .ok n):(n:Int)≤most:=by
 unfold cA at h
 split at h
 · cases h
 · rename_i h0; cases h; exact p9 s most (Classical.not_not.1 h0)
theorem xo {eof ln:Nat} {F:aB} {hs:List Tx} {rows:List Rw} {r:List Tx} (h:eR∈hs∨bM∈hs):ga eof F hs rows ln r= .error (ln,113):=if_pos h
theorem xp {eof ln e:Nat} {F:aB} {hs:List Tx} {rows:List Rw} {r:List Tx} (h0:¬(eR∈hs∨bM∈hs)) (h:cA (r.getD 1 []) 1024= .error e):ga eof F hs rows ln r= .error (ln,e):=by unfold ga; rw [if_neg h0,h]
theorem m5 {eof ln n:Nat} {F:aB} {hs:List Tx} {rows:List Rw} {r:List Tx} {e:Nat×Nat} (h0:¬(eR∈hs∨bM∈hs)) (h:cA (r.getD 1 []) 1024= .ok n) (h1:group [eO] (jl F.kind) eof n rows= .error e):ga eof F hs rows ln r= .error e:=by unfold ga; rw [if_neg h0,h]; simp only; rw [h1]
theorem xq {eof ln n:Nat} {F:aB} {hs:List Tx} {rows:List Rw} {r:List Tx} {q:List (List Nat)×List Rw} (h0:¬(eR∈hs∨bM∈hs)) (h:cA (r.getD 1 []) 1024= .ok n) (h1:group [eO] (jl F.kind) eof n rows= .ok q):ga eof F hs rows ln r= .ok ({F with aliases:=F.aliases++q.1},q.2):=by unfold ga; rw [if_neg h0,h]; simp only; rw [h1]
theorem xl {kind ln:Nat} {r:List Tx} (h:r.length≠2):jl kind ln r= .error 111:=if_pos h
theorem q9 {kind ln:Nat} {r:List Tx} (h:r.length=2):jl kind ln r=gV kind (r.getD 1 []):=if_neg (by omega)
theorem tw {kind:Nat} {s:Tx} (h:(dm kind s).2=0):(dm kind s).1.length≤64∧(dm kind s).1.Pairwise (· < ·):=by
 unfold dm at h ⊢
 split
 · simp
 · split
   · simp
   · split
     · simp
     · rename_i h3
       exact ⟨by have :=D5 ((cO kind s).map (cY kind)); rw [List.length_map] at this; exact Nat.le_trans this (by omega),uM _⟩
theorem ER {ln:Nat} {r:List Tx} (h:r.length≠3):gY ln r= .error 111:=if_pos h
theorem ES {ln e:Nat} {r:List Tx} (h:r.length=3) (h1:dQ false (r.getD 1 [])= .error e):gY ln r= .error e:=by unfold gY; rw [if_neg (by omega),h1]
theorem ET {ln e:Nat} {r:List Tx} {a:Tx} (h:r.length=3) (h1:dQ false (r.getD 1 [])= .ok a) (h2:dQ true (r.getD 2 [])= .error e):gY ln r= .error e:=by unfold gY; rw [if_neg (by omega),h1]; simp only; rw [h2]
theorem EU {ln:Nat} {r:List Tx} {a b:Tx} (h:r.length=3) (h1:dQ false (r.getD 1 [])= .ok a) (h2:dQ true (r.getD 2 [])= .ok b):gY ln r= .ok (a,b):=by unfold gY; rw [if_neg (by omega),h1]; simp only; rw [h2]
theorem EY (B:Nat) (H:bd) (F:aB) (rows:List Rw) (ln:Nat) (seen:List Tx) (r:List Tx) (aH:Nat) (ag:Option Addr) (ah:Nat) (w:World) (A:St w B H F rows ln seen) (hT:Tg w aH 9 r.length (.slice ag r.length ah) (r.map str)) (hr:r.length=2) (hrl:∀ x∈r,x.length≤70000):
 cI Tryz.prog 63 (List.toArray [.pointer (some ⟨H.rb,0,none⟩),.slice ag r.length ah]) w (eD B H seen (gH H.eof F rows ln r) w) (eC B H (gH H.eof F rows ln r) w):=by
 obtain ⟨V,R,J,am,ay⟩:=A
 have hTs:=hT.bL
 have br:(r.getD 1 []).length≤70000:=hrl _ (dW (by omega))
 have hlo:=am.lo
 have hbl:=ay.len
 refine e4 Tryz.func63 rfl Tryz.ntmps63 rfl ?_
 refine sq (fun a8 aO=>rg rfl (p (ao (.pointer (some ⟨H.rb,0,none⟩)) rfl) (p (ao (.slice ag r.length ah) rfl) (p (aG bU rfl rfl (by omega) (aj.ok (hTs.2) (bN (by omega)))) (p (ld bY rfl (bB.get (i:=1) hTs.2 (by omega))) (eP rfl (bq ni (nW H.rb ln (r.getD 1 []) 256 w am.cw (by omega) (by omega)) rfl fun v10 w10 hR10=> ?_) (fun c w' s ac J=>by obtain ⟨e,he,h,h2⟩:=s; exact ⟨ln,e,EW he,h,Wk.mw h2⟩)))))))
 obtain ⟨n,hnx,rfl,ai⟩:=hR10
 have hnl:=qd hnx
 refine p mv (nl (tn (aO _ _ (au (lp (fun ax ae wI=> ∃ (i:Nat) (xs:List (Tx×Tx)) (O:List Rw) (ab:Nat) (j:cR) (R':dD),(i≤n)∧(eb [e6] gY H.eof (group [e6] gY H.eof n rows) xs (n - i) O)∧(xs.length=i)∧(bz wI B H.fb H.mc {F with bH:=F.bH++xs} j)∧(bg wI B H F R' O ab seen)∧(fE {F with bH:=F.bH++xs} O seen)∧(cH B H w wI)∧(ae 0= .pointer (some ⟨H.rb,0,none⟩))∧(ae 10= .int .i64 (n:Nat))∧(ae 11= .int .i64 (i:Nat))∧(n - i=ax)) _ ⟨0,[],rows,ln,V,R,(by omega),eb.start,rfl,((by rw [List.append_nil]; exact J.wk ai)),(am.wk ai),((by rw [List.append_nil]; exact ay)),(Wk.mw ai),rfl,rfl,rfl,rfl⟩ ?_)))))
 rintro ax ae wI ⟨i,xs,O,ab,j,R',hi,C,hxl,aA,Y,U,hMw,a4,a5,a6,rfl⟩
 refine fx 0 a4 (fx 10 a5 (fx 11 a6 (sq (fun a9 aP=>rg rfl (p (lt rfl rfl) (nl (tn (aP _ _ (sq (fun bb aQ=>cd rfl (fun a0=> ?_) (fun a0=> ?_)))))))))))
 refine az (tn (aQ _ _ (sq (fun bc aR=>au (sq (fun bf aS=>rg rfl (p (ao (.pointer (some ⟨H.rb,0,none⟩)) rfl) (e (kW (L:= [str e6]) fc rfl rfl rfl rfl fun aJ w14 hb14 aV aK=> ?_)))))))))
 have hE14:Wk wI w14:=aV.md
 have hMw14:=hMw.trans (Wk.mw hE14)
 refine eP rfl (bq oX (pR B H F R' O ab seen [e6] aJ 1 _ _ w14 (Y.wk hE14) (Tg.qf aK rfl) rfl (by decide) (fun q a3=>(U.row q a3).2.1)) rfl fun bt w15 aW=> ?_) (fun c w' s ac J=>by
  obtain ⟨h1,h2⟩:=s
  have hm:=hMw14.trans (cH.rb (Y.wk hE14) h2)
  rcases h1 with ⟨rfl,h3⟩ | ⟨M,I,rest,rfl,h4,h3⟩
  exact ⟨_,_,mA hnx (C.ends (by omega)),h3,hm⟩
  exact ⟨_,_,mA hnx (C.other (by omega) h4),h3,hm⟩)
 obtain ⟨M,I,rest,rfl,aa,⟨aI,hR2⟩,hT15,hM15⟩:=aW
 obtain ⟨bk,nd,rfl⟩:=hT15.slice
 have hF2:=(aA.wk hE14).rb (Y.wk hE14) hM15
 have hMw2:=hMw14.trans (cH.rb (Y.wk hE14) hM15)
 have hrow:I≠[]∧I.length≤70000∧∀ x∈I,x.length≤70000:=U.row (M,I) (by simp)
 have hB2:=fE.k6 U
 have hT15s:=hT15.bL
 have hbl2:=U.len
 simp only [List.length_cons,List.length_append] at hbl2
 refine p ak (nl (tn (aS _ _ (sq (fun bh aT=>rg rfl (p (ao (.pointer (some ⟨H.rb,0,none⟩)) rfl) (p mv (p (bm dI rfl rfl) ?_))))))))
 refine p (ba rfl rfl) (eP rfl (bq dK (dP H.rb M _ 111 w15 hR2.cw (by decide)) rfl fun v20 w20 aX=> ?_) (fun c w' s ac J=>⟨_,_,mA hnx (C.bad (by omega) aa (ER (by have :=of_decide_eq_false s.2.1; omega))),s.1,by rw [s.2.2]; exact hMw2⟩))
 obtain ⟨rfl,a7,rfl⟩:=aX
 have ar:I.length=3:=by have :=of_decide_eq_true a7; omega
 have hl1:=hrow.2.2 _ (dW (d:= []) (i:=1) (by omega))
 have hl2:=hrow.2.2 _ (dW (d:= []) (i:=2) (by omega))
 refine nl (tn (aT _ _ (sq (fun bi aU=>rg rfl (p (ao (.pointer (some ⟨H.rb,0,none⟩)) rfl) (p mv (p (aG bU rfl rfl (by omega) (aj.ok (hT15s.2) (bN (by omega)))) (p (ld bY rfl (bB.get (i:=1) hT15s.2 (by omega))) ?_))))))))
 refine eP rfl (bq r7 (uX H.rb M (I.getD 1 []) w20 hR2.cw (by omega)) rfl fun bu w25 aY=> ?_) (fun c w' s ac J=>by obtain ⟨e,he,h,h2⟩:=s; exact ⟨_,_,mA hnx (C.bad (by omega) aa (ES ar he)),h,hMw2.trans (Wk.mw h2)⟩)
 obtain ⟨E,aF,rfl,hE25⟩:=aY
 have hF3:=hF2.wk hE25
 have hR3:=hR2.wk hE25
 have hT3:=hT15.wk hE25
 have hMw3:=hMw2.trans (Wk.mw hE25)
 have aq:¬(j.v9.ownBlock=some H.rb):=cy hF3.o9 hR3.cells (by decide)
 have a1:¬(j.v9.ownBlock=some H.fb):=cy hF3.o9 hF3.cells (by decide)
 refine p ak (nl (tn (aU _ _ ?_)))
 have a:(fun w'=>Md (fun k=>j.v9.ownBlock=some k) w25 w') w25.drew:=(Md.refl _ _).drew
 refine c5 (fun w'=>Md (fun k=>j.v9.ownBlock=some k) w25 w') 24 rfl wide a (bj 0 rfl (by kernel_rfl) (fun _=>ao (.pointer (some ⟨H.rb,0,none⟩)) rfl) (fun _=>a) (bj 1 rfl (by kernel_rfl) (fun _=>nc rfl) (fun _=>a) (bj 2 rfl (by kernel_rfl) (fun _=>fa dE rfl) (fun _=>a) (fu 3 rfl (by kernel_rfl) (fun w' A=>ld dq rfl (Md.aw A ((aM hR3.cells).trans rfl) aq)) a (bj 4 rfl (by kernel_rfl) (fun _=>ao (.pointer (some ⟨H.rb,0,none⟩)) rfl) (fun _=>a) (bj 5 rfl (by kernel_rfl) (fun _=>nc rfl) (fun _=>a) (bj 6 rfl (by kernel_rfl) (fun _=>fa dE rfl) (fun _=>a) ?_)))))))
 refine fu 7 rfl (by kernel_rfl) (fun w' A=>ld dq rfl (Md.aw A ((aM hR3.cells).trans rfl) aq)) a (bj 8 rfl (by kernel_rfl) (fun _=>nc rfl) (fun _=>a) (bj 9 rfl (by kernel_rfl) (fun _=>fa dw rfl) (fun _=>a) (bj 10 rfl (by kernel_rfl) (fun _=>fa nK rfl) (fun _=>a) (fu 11 rfl (by kernel_rfl) (fun w' A=>ld q7 rfl (Md.aw A ((aM hF3.cells).trans rfl) a1)) a (bj 12 rfl (by kernel_rfl) (fun _=>mv) (fun _=>a) (bj 13 rfl (by kernel_rfl) (fun _=>ao (.pointer (some ⟨H.rb,0,none⟩)) rfl) (fun _=>a) (bj 14 rfl (by kernel_rfl) (fun _=>mv) (fun _=>a) ?_)))))))
 refine bj 15 rfl (by kernel_rfl) (fun _=>aG bU rfl rfl (by omega) (aj.ok (hT3.bL.2) (bN (by omega)))) (fun _=>a) (fu 16 rfl (by kernel_rfl) (fun w' A=>ld bY rfl (bB.get (i:=2) (hT3.md A (e9 hF3.o9 (by decide))).bL.2 (by omega))) a (ug 17 rfl (by kernel_rfl) rfl (bq rC (uV H.rb M (I.getD 2 []) w25.drew (Md.aw a hR3.cw aq) (by omega)) rfl fun bv w43 aZ=> ?_) (fun c w' s ac J=>by obtain ⟨e,he,h,h2⟩:=s; exact ⟨_,_,mA hnx (C.bad (by omega) aa (ET ar aF he)),h,hMw3.trans (Wk.mw (eS h2))⟩)))
 obtain ⟨G,a2,rfl,hE43⟩:=aZ
 have hE43:=eS hE43
 have an:(fun w'=>Md (fun k=>j.v9.ownBlock=some k) w25 w') w43:=Md.mono hE43 (fun _ _ h=>h.elim)
 refine ⟨an,?_⟩
 refine bj 18 rfl (by kernel_rfl) (fun _=>bZ (ps:= [(0,str E),(1,str G)]) (L:= [str E,str G]) FO rfl (rfl)) (fun _=>an) (fK 19 rfl (by kernel_rfl) (kr oc rfl rfl rfl fun bl w45 bo aC aL=> ?_))
 have hE45:=hE43.trans aC.md
 have hF4:=hF3.wk hE45
 have hR4:=hR3.wk hE45
 have aD:(fun w'=>Md (fun k=>j.v9.ownBlock=some k) w25 w') w45:=an.trans' aC.md (fun _ _ h=>h.elim)
 refine ⟨aD,?_⟩
 refine fK 20 rfl (by kernel_rfl) (ap oc (hF4.o9) rfl (by have :=(Array.getElem?_eq_some_iff.1 hR4.cells).1; omega) rfl (aj.dZ aL) (rfl) (rfl) (by simp only [List.length_append]; omega) (by simp only [List.length_append]; omega) fun av w46 aE hM46 bs bp=> ?_)
 have hMw5:=(hMw3.trans (Wk.mw hE45)).trans (Mw.of hM46 (TF.own hF4.o9 (by decide)) (fun k hk=>(cM hF4.o9 hk).1))
 have hR5:=bg.own hR4 hF4.o9 hM46 (by decide)
 have hc5:=hM46.au hF4.cells (cy hF4.o9 hF4.cells (by decide))
 have ho46x:World.ownsRow w46 B 163 2 av ((F.bH++xs)++ [(E,G)]).length (ic ((F.bH++xs)++ [(E,G)])):=by rw [show ic ((F.bH++xs)++ [(E,G)])=ic (F.bH++xs)++ [str E,str G] from by simp [ic],List.length_append]; exact aE
 have Z:(fun w'=>Md (fun k=>j.v9.ownBlock=some k) w25 w') w46:=aD.trans' hM46 (fun _ _ h=>h)
 refine ⟨Z,?_⟩
 refine bj 21 rfl (by kernel_rfl) (fun _=>nc rfl) (fun _=>Z) (bj 22 rfl (by kernel_rfl) (fun _=>fa dw rfl) (fun _=>Z) (bj 23 rfl (by kernel_rfl) (fun _=>fa nK rfl) (fun _=>Z) (bJ 24 rfl (by kernel_rfl) (by kernel_rfl) (cV su rfl rfl (v:=av) (dx aE) hc5 (by show _ < 14; omega) fun w9 hM9 aN=> ?_))))
 refine c4 (by kernel_rfl) ?_
 exact bn (tn (aR _ _ (rg rfl (p (ad rfl rfl (bw (by omega))) (p mv (nl (tn (⟨_,by omega,i+1,xs++ [(E,G)],rest,M,{j with v9:=av},aI,(by omega),((by rw [show n - (i+1)=n - i - 1 by omega]; exact C.step (by omega) aa (EU ar aF a2))),((by rw [List.length_append,hxl]; rfl)),((by rw [← List.append_assoc]; exact bz.xC (x:=(E,G)) hF4 hM46 ho46x hM9 aN)),(bg.nB hR5 hc5 hM9),(⟨by simp only [List.length_append,List.length_singleton]; omega,hB2.sl,hB2.row,hB2.kd,hB2.al⟩),(hMw5.trans (Mw.of hM9 (TF.eq (cQ hc5) (by decide)) (fun k hk=>hk ▸ hF4.lo.1))),rfl,rfl,rfl,rfl⟩))))))))
 refine ext (te _ (te _ (be (eM ?_))))
 refine f0 rfl ?_
 rw [show n - i=0 by omega] at C
 exact ⟨rfl,_,O,ab,EX hnx C.done,⟨j,R',aA,Y.congr rfl (fun _=>rfl),U⟩,hMw⟩
theorem xn (B:Nat) (H:bd) (F:aB) (rows:List Rw) (ln:Nat) (seen:List Tx) (r:List Tx) (aR:Nat) (av:Option Addr) (ax:Nat) (w:World) (j:St w B H F rows ln seen) (hT:Tg w aR 9 r.length (.slice av r.length ax) (r.map str)) (hr:r.length=2) (hrl:∀ x∈r,x.length≤70000):
 cI Tryz.prog 64 (List.toArray [.pointer (some ⟨H.rb,0,none⟩),.slice av r.length ax]) w (eD B H seen (ga H.eof F seen rows ln r) w) (eC B H (ga H.eof F seen rows ln r) w):=by
 obtain ⟨V,R,U,J,ah⟩:=j
 have hTs:=hT.bL
 have bW:(r.getD 1 []).length≤70000:=hrl _ (dW (by omega))
 have hlo:=J.lo
 have hbl:=ah.len
 obtain ⟨bZ,aO,aP⟩:=J.sm
 have hcp:=List.count_le_length (a:=eR) (l:=seen)
 have hcs:=List.count_le_length (a:=bM) (l:=seen)
 have hsl:=ah.sl
 refine e4 Tryz.func64 rfl Tryz.ntmps64 rfl ?_
 refine sq (fun bD aY=> ?_)
 have s:(fun w'=>Wk w w') w.drew:=(Md.refl _ _).drew
 refine bF (fun w'=>Wk w w') rfl wide s (hp 0 rfl (by kernel_rfl) (fun _ _=>ao (.pointer (some ⟨H.rb,0,none⟩)) rfl) s (hp 1 rfl (by kernel_rfl) (fun _ _=>ao (.pointer (some ⟨H.rb,0,none⟩)) rfl) s (hp 2 rfl (by kernel_rfl) (fun _ _=>nc rfl) s (hp 3 rfl (by kernel_rfl) (fun _ _=>fa lk rfl) s (hp 4 rfl (by kernel_rfl) (fun w' j=>ld kU rfl (Wk.aw j ((aM J.cells).trans rfl))) s (hp 5 rfl (by kernel_rfl) (fun w' j=>iT j7 jf ef (bf.md (aO) j id) rfl rfl (⟨_,rfl⟩) (aP eR)) s (hp 6 rfl (by kernel_rfl) (fun _ _=>ao (.pointer (some ⟨H.rb,0,none⟩)) rfl) s ?_)))))))
 refine hp 7 rfl (by kernel_rfl) (fun _ _=>nc rfl) s (hp 8 rfl (by kernel_rfl) (fun _ _=>fa lk rfl) s (hp 9 rfl (by kernel_rfl) (fun w' j=>ld kU rfl (Wk.aw j ((aM J.cells).trans rfl))) s (hp 10 rfl (by kernel_rfl) (fun w' j=>iT j7 jf ef (bf.md (aO) j id) rfl rfl (⟨_,rfl⟩) (aP bM)) s (hp 11 rfl (by kernel_rfl) (fun _ _=>a8 ((seen.count eR+seen.count bM:Nat):Int) rfl rfl (aH (by omega) (by omega))) s (hp 12 rfl (by kernel_rfl) (fun _ _=>ba rfl rfl) s ?_)))))
 refine ll 13 rfl (by kernel_rfl) rfl (bq dK (dP H.rb ln _ 113 w.drew (Wk.aw s J.cw) (by decide)) rfl fun v20 w20 bc=> ?_) (fun c w' A aq U=>⟨ln,113,xo (Classical.byContradiction fun h2=>by
  have h1:=List.count_eq_zero.2 (fun h=>h2 (Or.inl h))
  have h3:=List.count_eq_zero.2 (fun h=>h2 (Or.inr h))
  exact of_decide_eq_false A.2.1 (by omega)),A.1,by rw [A.2.2]; exact Wk.mw s⟩)
 obtain ⟨rfl,bA,aQ⟩:=bc
 have ai:Wk w w20:=by rw [aQ]; exact (Md.refl _ _).drew
 have Z:¬(eR∈seen∨bM∈seen):=by
  have h0:=of_decide_eq_true bA
  rintro (h | h)
  have :=List.count_pos_iff.2 h; omega
  have :=List.count_pos_iff.2 h; omega
 have hR0:=J.wk ai
 have hT0s:=(hT.wk ai).bL
 have bo:(fun w'=>Wk w w') w20:=by rw [aQ]; exact s
 refine ⟨bo,?_⟩
 refine hn (by kernel_rfl) (tn (aY _ _ (sq (fun bE aZ=>rg rfl (p (ao (.pointer (some ⟨H.rb,0,none⟩)) rfl) (p (ao (.slice av r.length ax) rfl) (p (aG bU rfl rfl (by omega) (aj.ok (hT0s.2) (bN (by omega)))) (p (ld bY rfl (bB.get (i:=1) hT0s.2 (by omega))) ?_))))))))
 refine eP rfl (bq ni (nW H.rb ln (r.getD 1 []) 1024 w20 hR0.cw (by omega) (by omega)) rfl fun b1 w25 bh=> ?_) (fun c w' A aq U=>by obtain ⟨e,he,h,h2⟩:=A; exact ⟨ln,e,xp Z he,h,Wk.mw (ai.trans h2)⟩)
 obtain ⟨n,hnx,rfl,hE25⟩:=bh
 have hnl:=qd hnx
 have hE25:=ai.trans hE25
 refine p mv (nl (tn (aZ _ _ (au (lp (fun aF ar wI=> ∃ (i:Nat) (xs:List (List Nat)) (aa:List Rw) (an:Nat) (E:cR) (R':dD),(i≤n)∧(eb [eO] (jl F.kind) H.eof (group [eO] (jl F.kind) H.eof n rows) xs (n - i) aa)∧(xs.length=i)∧(bz wI B H.fb H.mc {F with aliases:=F.aliases++xs} E)∧(bg wI B H F R' aa an seen)∧(fE {F with aliases:=F.aliases++xs} aa seen)∧(cH B H w wI)∧(ar 0= .pointer (some ⟨H.rb,0,none⟩))∧(ar 25= .int .i64 (n:Nat))∧(ar 26= .int .i64 (i:Nat))∧(n - i=aF)) _ ⟨0,[],rows,ln,V,R,(by omega),eb.start,rfl,((by rw [List.append_nil]; exact U.wk hE25)),(J.wk hE25),((by rw [List.append_nil]; exact ah)),(Wk.mw hE25),rfl,rfl,rfl,rfl⟩ ?_)))))
 rintro aF ar wI ⟨i,xs,aa,an,E,R',hi,M,hxl,aI,ac,O,hMw,bu,bv,bx,rfl⟩
 refine fx 0 bu (fx 25 bv (fx 26 bx (sq (fun bG a0=>rg rfl (p (lt rfl rfl) (nl (tn (a0 _ _ (sq (fun bH a1=>cd rfl (fun bp=> ?_) (fun bp=> ?_)))))))))))
 refine az (tn (a1 _ _ (sq (fun bI a2=>au (sq (fun bK a3=>rg rfl (p (ao (.pointer (some ⟨H.rb,0,none⟩)) rfl) (e (kW (L:= [str eO]) fc rfl rfl rfl rfl fun aT w14 hb14 a7 aU=> ?_)))))))))
 have hE14:Wk wI w14:=a7.md
 have hMw14:=hMw.trans (Wk.mw hE14)
 refine eP rfl (bq oX (pR B H F R' aa an seen [eO] aT 1 _ _ w14 (ac.wk hE14) (Tg.qf aU rfl) rfl (by decide) (fun q bt=>(O.row q bt).2.1)) rfl fun b0 w15 bb=> ?_) (fun c w' A aq U=>by
  obtain ⟨h1,h2⟩:=A
  have hm:=hMw14.trans (cH.rb (ac.wk hE14) h2)
  rcases h1 with ⟨rfl,h3⟩ | ⟨ae,I,rest,rfl,h4,h3⟩
  exact ⟨_,_,m5 Z hnx (M.ends (by omega)),h3,hm⟩
  exact ⟨_,_,m5 Z hnx (M.other (by omega) h4),h3,hm⟩)
 obtain ⟨ae,I,rest,rfl,aA,⟨aS,hR2⟩,hT15,hM15⟩:=bb
 obtain ⟨bR,nd,rfl⟩:=hT15.slice
 have hF2:=(aI.wk hE14).rb (ac.wk hE14) hM15
 have hMw2:=hMw14.trans (cH.rb (ac.wk hE14) hM15)
 have hrow:I≠[]∧I.length≤70000∧∀ x∈I,x.length≤70000:=O.row (ae,I) (by simp)
 have hB2:=fE.k6 O
 have hT15s:=hT15.bL
 have hbl2:=O.len
 simp only [List.length_cons,List.length_append] at hbl2
 refine p ak (nl (tn (a3 _ _ (sq (fun bO a4=>rg rfl (p (ao (.pointer (some ⟨H.rb,0,none⟩)) rfl) (p mv (p (bm dI rfl rfl) ?_))))))))
 refine p (ba rfl rfl) (eP rfl (bq dK (dP H.rb ae _ 111 w15 hR2.cw (by decide)) rfl fun b2 w35 bi=> ?_) (fun c w' A aq U=>⟨_,_,m5 Z hnx (M.bad (by omega) aA (xl (by have :=of_decide_eq_false A.2.1; omega))),A.1,by rw [A.2.2]; exact hMw2⟩))
 obtain ⟨rfl,bC,rfl⟩:=bi
 have aN:I.length=2:=by have :=of_decide_eq_true bC; omega
 have hl1:=hrow.2.2 _ (dW (d:= []) (i:=1) (by omega))
 refine nl (tn (a4 _ _ (sq (fun bP a5=> ?_))))
 have G:(fun w'=>Wk w35 w') w35.drew:=(Md.refl _ _).drew
 refine bF (fun w'=>Wk w35 w') rfl wide G (hp 0 rfl (by kernel_rfl) (fun _ _=>ao (.pointer (some ⟨H.rb,0,none⟩)) rfl) G (hp 1 rfl (by kernel_rfl) (fun _ _=>nc rfl) G (hp 2 rfl (by kernel_rfl) (fun _ _=>fa dE rfl) G (hp 3 rfl (by kernel_rfl) (fun w' j=>ld dq rfl (Wk.aw j ((aM hR2.cells).trans rfl))) G (hp 4 rfl (by kernel_rfl) (fun _ _=>nc rfl) G (hp 5 rfl (by kernel_rfl) (fun _ _=>fa dw rfl) G (hp 6 rfl (by kernel_rfl) (fun _ _=>fa lh rfl) G ?_)))))))
 refine hp 7 rfl (by kernel_rfl) (fun w' j=>ld cX rfl (Wk.aw j ((aM hF2.cells).trans rfl))) G (hp 8 rfl (by kernel_rfl) (fun _ _=>mv) G (hp 9 rfl (by kernel_rfl) (fun _ _=>aG bU rfl rfl (by omega) (aj.ok (hT15s.2) (bN (by omega)))) G (hp 10 rfl (by kernel_rfl) (fun w' j=>ld bY rfl (Wk.aw j (bB.get (i:=1) hT15s.2 (by omega)))) G (he 11 rfl (by kernel_rfl) (cl rD (tB F.kind (I.getD 1 []) _ ah.kd (by omega)) rfl fun b3 w48 bk=> ?_)))))
 obtain ⟨⟨ag,rfl,ay⟩,hE48⟩:=bk
 have hE48:=eS hE48
 have hF3:=hF2.wk hE48
 have hR3:=hR2.wk hE48
 have hMw3:=hMw2.trans (Wk.mw hE48)
 have aK:¬(E.v10.ownBlock=some H.rb):=cy hF3.eH hR3.cells (by decide)
 have br:¬(E.v10.ownBlock=some H.fb):=cy hF3.eH hF3.cells (by decide)
 have aX:B≤w35.heap.size:=by have :=(Array.getElem?_eq_some_iff.1 hR2.cells).1; omega
 have Y:(fun w'=>Wk w35 w') w48:=hE48
 refine ⟨Y,?_⟩
 refine hp 12 rfl (by kernel_rfl) (fun _ _=>mv) Y (hp 13 rfl (by kernel_rfl) (fun _ _=>xt rfl rfl) Y (hp 14 rfl (by kernel_rfl) (fun _ _=>xt rfl rfl) Y (hp 15 rfl (by kernel_rfl) (fun _ _=>ak) Y (hp 16 rfl (by kernel_rfl) (fun _ _=>ak) Y (hn (by kernel_rfl) (tn (a5 _ _ (sq (fun bQ a6=> ?_)))))))))
 refine rg rfl (p (ao (.pointer (some ⟨H.rb,0,none⟩)) rfl) (p mv (eP rfl (bq iG (iU H.rb ae ((dm F.kind (I.getD 1 [])).2:Nat) w48 hR3.cw) rfl fun b4 w53 bl=> ?_) (fun c w' A aq U=>⟨_,_,m5 Z hnx (M.bad (by omega) aA (by rw [q9 aN]; exact tx (by have :=A.2.1; omega))),A.1,by rw [A.2.2]; exact hMw3⟩))))
 obtain ⟨rfl,aC,rfl⟩:=bl
 have aC:(dm F.kind (I.getD 1 [])).2=0:=by omega
 have hfo:=tw aC
 refine nl (tn (a6 _ _ ?_))
 have C:(fun w'=>Md (fun k=>E.v10.ownBlock=some k) w53 w') w53.drew:=(Md.refl _ _).drew
 refine c5 (fun w'=>Md (fun k=>E.v10.ownBlock=some k) w53 w') 18 rfl wide C (bj 0 rfl (by kernel_rfl) (fun _=>ao (.pointer (some ⟨H.rb,0,none⟩)) rfl) (fun _=>C) (bj 1 rfl (by kernel_rfl) (fun _=>nc rfl) (fun _=>C) (bj 2 rfl (by kernel_rfl) (fun _=>fa dE rfl) (fun _=>C) (fu 3 rfl (by kernel_rfl) (fun w' j=>ld dq rfl (Md.aw j ((aM hR3.cells).trans rfl) aK)) C (bj 4 rfl (by kernel_rfl) (fun _=>ao (.pointer (some ⟨H.rb,0,none⟩)) rfl) (fun _=>C) (bj 5 rfl (by kernel_rfl) (fun _=>nc rfl) (fun _=>C) (bj 6 rfl (by kernel_rfl) (fun _=>fa dE rfl) (fun _=>C) ?_)))))))
 refine fu 7 rfl (by kernel_rfl) (fun w' j=>ld dq rfl (Md.aw j ((aM hR3.cells).trans rfl) aK)) C (bj 8 rfl (by kernel_rfl) (fun _=>nc rfl) (fun _=>C) (bj 9 rfl (by kernel_rfl) (fun _=>fa dw rfl) (fun _=>C) (bj 10 rfl (by kernel_rfl) (fun _=>fa jt rfl) (fun _=>C) (fu 11 rfl (by kernel_rfl) (fun w' j=>ld kn rfl (Md.aw j ((aM hF3.cells).trans rfl) br)) C (bj 12 rfl (by kernel_rfl) (fun _=>mv) (fun _=>C) (fK 13 rfl (by kernel_rfl) (gh od rfl (dx ay) fun bS w67 bT a9 aV=> ?_)))))))
 have hE67:=eS a9.md
 have hF4:=hF3.wk hE67
 have hR4:=hR3.wk hE67
 have hTx:=(Tg.fU (aE ay hE67)).mono aX
 have aJ:(fun w'=>Md (fun k=>E.v10.ownBlock=some k) w53 w') w67:=Md.mono hE67 (fun _ _ h=>h.elim)
 refine ⟨aJ,?_⟩
 refine fK 14 rfl (by kernel_rfl) (ap od (hF4.eH) rfl (by have :=(Array.getElem?_eq_some_iff.1 hR4.cells).1; omega) rfl (aj.dZ aV) (rfl) (by show List.all [ag] Value.oneCell'=true; simp only [List.all_cons,List.all_nil,dx ay,Bool.and_self]) (by simp only [List.length_append]; omega) (by simp only [List.length_append]; omega) fun aD w68 aL ab bX bV=> ?_)
 have hMw5:=(hMw3.trans (Wk.mw hE67)).trans (Mw.of ab (TF.own hF4.eH (by decide)) (fun k hk=>(cM hF4.eH hk).1))
 have hR5:=bg.own hR4 hF4.eH ab (by decide)
 have hc5:=ab.au hF4.cells (cy hF4.eH hF4.cells (by decide))
 have bs:World.ownsRow w68 B 54 1 aD ((F.aliases++xs)++ [(dm F.kind (I.getD 1 [])).1]).length (E.sa++ [ag]):=by rw [List.length_append]; exact aL
 have am:(fun w'=>Md (fun k=>E.v10.ownBlock=some k) w53 w') w68:=aJ.trans' ab (fun _ _ h=>h)
 refine ⟨am,?_⟩
 refine bj 15 rfl (by kernel_rfl) (fun _=>nc rfl) (fun _=>am) (bj 16 rfl (by kernel_rfl) (fun _=>fa dw rfl) (fun _=>am) (bj 17 rfl (by kernel_rfl) (fun _=>fa jt rfl) (fun _=>am) (bJ 18 rfl (by kernel_rfl) (by kernel_rfl) (cV sv rfl rfl (v:=aD) (dx aL) hc5 (by show _ < 14; omega) fun w9 hM9 aW=> ?_))))
 refine c4 (by kernel_rfl) ?_
 exact bn (tn (a2 _ _ (rg rfl (p (ad rfl rfl (bw (by omega))) (p mv (nl (tn (⟨_,by omega,i+1,xs++ [(dm F.kind (I.getD 1 [])).1],rest,ae,{E with v10:=aD,sa:=E.sa++ [ag]},aS,(by omega),((by rw [show n - (i+1)=n - i - 1 by omega]; exact M.step (by omega) aA (by rw [q9 aN]; exact tA aC))),((by rw [List.length_append,hxl]; rfl)),((by rw [← List.append_assoc]; exact bz.xz (x:=(dm F.kind (I.getD 1 [])).1) (vx:=ag) hF4 hTx ab bs hM9 aW)),(bg.nB hR5 hc5 hM9),(⟨by simp only [List.length_append,List.length_singleton]; omega,hB2.sl,hB2.row,hB2.kd,(by intro l hl; rw [← List.append_assoc] at hl; rcases List.mem_append.1 hl with hl | hl; exact O.al l hl; rw [List.mem_singleton.1 hl]; exact hfo)⟩),(hMw5.trans (Mw.of hM9 (TF.eq (cQ hc5) (by decide)) (fun k hk=>hk ▸ hF4.lo.1))),rfl,rfl,rfl,rfl⟩))))))))
 refine ext (te _ (te _ (be (eM ?_))))
 refine f0 rfl ?_
 rw [show n - i=0 by omega] at M
 exact ⟨rfl,_,aa,an,xq Z hnx M.done,⟨E,R',aI,ac.congr rfl (fun _=>rfl),O⟩,hMw⟩
end Go.Hb.im
end
section
set_option maxRecDepth 20000
set_option maxHeartbeats 1000000
namespace Go.Hb.g5
open Go.Proofs
open Go.Hb.eJ Go.Hb.fg Go.Hb.jg Go.Hb.fz Go.Hb.im
def Nx (F:aB):Prop :=(∀ l∈F.aliases,l.length≤64)∧∀ q∈F.rules,q.next.length≤64
theorem tG {α:Type} {hd:List Tx} {rd:Nat→List Tx→Except Nat α} {eof:Nat} :∀ (n:Nat) (rows:List Rw) (r:List α×List Rw),group hd rd eof n rows= .ok r→∀ x∈r.1,∃ ln row,rd ln row= .ok x:=by
 intro n
 induction n with
 | zero=>intro rows r h; simp only [group,Except.ok.injEq] at h; subst h; intro x a; cases a
 | succ n ih=>
   intro rows r h
   cases rows with
   | nil=>simp [group] at h
   | cons q rows=>
     obtain ⟨ln,row⟩:=q
     simp only [group] at h
     split at h
     · cases h
     · cases hr:rd ln row with
       | error e=>rw [hr] at h; cases h
       | ok y=>
         rw [hr] at h
         simp only at h
         cases hg:group hd rd eof n rows with
         | error e=>rw [hg] at h; cases h
         | ok c=>
           rw [hg] at h
           simp only [Except.ok.injEq] at h
           subst h
           intro x a
           rcases List.mem_cons.1 a with a | a
           · exact ⟨ln,row,by rw [a]; exact hr⟩
           · exact ih rows c hg x a
theorem tz {kind:Nat} {s:Tx} {l:List Nat} (h:gV kind s= .ok l):l.length≤64:=by
 unfold gV at h
 split at h
 · cases h
 · rename_i h0
   cases h
   exact (tw (Classical.not_not.1 h0)).1
theorem xm {kind ln:Nat} {row:List Tx} {l:List Nat} (h:jl kind ln row= .ok l):l.length≤64:=by
 unfold jl at h
 split at h
 · cases h
 · exact tz h
theorem ta {kind:Nat} {al:List (List Nat)} {s:Tx} {l:List Nat} (hal:∀ l∈al,l.length≤64) (h:dN kind al s= .ok l):l.length≤64:=by
 unfold dN at h
 split at h
 · exact tz h
 · split at h
   · cases h
   · split at h
     · cases h
     · cases h
       rename_i n _ _
       rw [List.getD_eq_getElem?_getD]
       cases hg:al[n - 1]? with
       | none=>simp
       | some x=>exact hal x (List.mem_of_getElem? hg)
theorem Fb {kind ln:Nat} {al:List (List Nat)} {c:cT} {row:List Tx} {q:eE} (hal:∀ l∈al,l.length≤64) (h:gI kind al c ln row= .ok q):q.next.length≤64:=by
 unfold gI at h
 split at h
 · cases h
 · split at h
   · cases h
   · split at h
     · cases h
     · split at h
       · cases h
       · rename_i nx hnx
         split at h
         · cases h
         · cases h
           unfold iV at hnx
           split at hnx
           · split at hnx
             · cases hnx
             · exact ta hal hnx
           · cases hnx; simp
theorem tL {eof ln:Nat} {F F':aB} {hs:List Tx} {rows i:List Rw} {row:List Tx} (h:Nx F) (a:bh eof F hs rows ln row= .ok (F',i)):Nx F':=by
 unfold bh at a
 split at a
 · unfold fX at a
   split at a
   · cases a
   · cases a; exact h
 · split at a
   · unfold gE at a
     split at a
     · cases a
     · split at a
       · cases a
       · cases a; exact h
   · split at a
     · unfold jz at a
       split at a
       · cases a
       · cases a; exact h
     · split at a
       · unfold jG at a
         split at a
         · cases a
         · cases a; exact h
       · split at a
         · unfold gF at a
           split at a
           · cases a
           · split at a
             · cases a
             · cases a; exact h
         · split at a
           · unfold gH at a
             split at a
             · cases a
             · split at a
               · cases a
               · cases a; exact h
           · split at a
             · unfold ga at a
               split at a
               · cases a
               · split at a
                 · cases a
                 · split at a
                   · cases a
                   · rename_i r hg
                     cases a
                     refine ⟨fun l hl=> ?_,h.2⟩
                     rcases List.mem_append.1 hl with hl | hl
                     · exact h.1 l hl
                     · obtain ⟨_,_,h2⟩:=tG _ _ _ hg l hl
                       exact xm h2
             · unfold eK at a
               split at a
               · cases a
               · split at a
                 · cases a
                 · split at a
                   · cases a
                   · split at a
                     · cases a
                     · split at a
                       · cases a
                       · rename_i r hg
                         cases a
                         refine ⟨h.1,fun q c=> ?_⟩
                         rcases List.mem_append.1 c with c | c
                         · exact h.2 q c
                         · obtain ⟨_,_,h2⟩:=tG _ _ _ hg q c
                           exact Fb h.1 h2
theorem Cq {eof ln:Nat} {F F':aB} {hs:List Tx} {rows c:List Rw} {row:List Tx} (h0:row.getD 0 []∉dC) (a:bh eof F hs rows ln row= .ok (F',c)):F'.sp=F.sp:=by
 unfold bh at a
 rw [if_neg h0] at a
 unfold gE jz jG gF gH ga eK at a
 repeat' split at a
 all_goals first
  | (cases a; done)
  | (cases a; rfl)
theorem tM {eof ln:Nat} {F F':aB} {seen:List Tx} {rows q:List Rw} {row:List Tx} (h:fj F seen) (c:bh eof F seen rows ln row= .ok (F',q)):fj F' (seen++ [row.getD 0 []]):=by
 intro k hk i
 rw [List.mem_append,List.mem_singleton] at i
 have j:k∉seen:=fun h=>i (.inl h)
 have p:k≠row.getD 0 []:=fun h=>i (.inr h)
 by_cases h0:row.getD 0 []∈dC
 · unfold bh at c
   rw [if_pos h0] at c
   unfold fX at c
   split at c
   · cases c
   · cases c
     show (F.sp.set (dC.idxOf (row.getD 0 [])) _).getD (dC.idxOf k) 0=0
     rw [List.getD_eq_getElem?_getD,List.getElem?_set,if_neg,← List.getD_eq_getElem?_getD]
     · exact h k hk j
     · intro he
       have hg:∀ a∈dC,dC.getD (dC.idxOf a) []=a:=by decide
       have h1:=hg _ h0
       have h2:=hg _ hk
       rw [he] at h1
       exact p (h2.symm.trans h1)
 · rw [Cq h0 c]; exact h k hk j
end Go.Hb.g5
end
section
set_option maxRecDepth 20000
set_option maxHeartbeats 1000000
namespace Go.Hb.j8
open Go.Hb.cG
open Go.Proofs
open Go.Hb.eJ Go.Hb.fg Go.Hb.jg Go.Hb.fz Go.Hb.im Go.Hb.jj Go.Hb.gP Go.Hb.ke Go.Hb.fG Go.Hb.kP Go.Hb.lQ Go.Hb.fZ Go.Hb.fN
structure iq (w:World) (B fb:Nat) (mc:Nat) (F:aB) (V:cR):Prop where
 cells:w.heap[fb]? =some (.cells (iO F V mc).toArray 89 (0,0))
 o9:World.ownsRow w B 163 2 V.v9 F.bH.length (ic F.bH)
 eH:World.ownsRow w B 54 1 V.v10 F.aliases.length V.sa
 al:bO w B 71 V.sa F.aliases
 dY:World.ownsRow w B 157 5 V.v11 F.a5.length (gT F.a5)
 dG:World.ownsRow w B 155 7 V.di F.rules.length (eI (F.rules.zip V.rn))
 nx:bO w B 71 V.rn (F.rules.map (·.next))
 lo:B≤fb∧B≤mc
 fL:F.sp.length=5
theorem iq.md {G:Nat→Prop} {w w':World} {B fb mc:Nat} {F:aB} {V:cR} (h:iq w B fb mc F V) (hm:Md G w w') {L:List Nat} (hT:TF w L G) (a:(L.contains 91 || L.contains 165 || L.contains 56 || L.contains 73 || L.contains 159 || L.contains 157)=false):iq w' B fb mc F V:=by
 simp only [Bool.or_eq_false_iff] at a
 obtain ⟨⟨⟨⟨⟨h1,h2⟩,h3⟩,h4⟩,h5⟩,h6⟩:=a
 have hfl:∀ k,G k→∀ cur z,w.heap[k]?≠some (.cells cur 71 z):=fun k hk cur z hg=>hT.no (cQ hg) h4 hk
 exact ⟨hm.gR hT h.cells h1,ca h.o9 hm hT h2,ca h.eH hm hT h3,h.al.md hm hfl,ca h.dY hm hT h5,ca h.dG hm hT h6,h.nx.md hm hfl,h.lo,h.fL⟩
theorem iq.wk {w w':World} {B fb mc:Nat} {F:aB} {V:cR} (h:iq w B fb mc F V) (hm:Wk w w'):iq w' B fb mc F V:=h.md (L:= []) hm (fun _ hk=>hk.elim) rfl
theorem A8 {w:World} {B fb mc:Nat} {F:aB} {V:cR} (h:bz w B fb mc F V):iq w B fb mc F V:=⟨h.cells,h.o9,h.eH,h.al,h.dY,h.dG,h.nx,h.lo,h.fL⟩
theorem iq.xA {w w1 j:World} {B fb mc:Nat} {F:aB} {V:cR} {v:Value} {x:cT} {f:Value→Option Value} (h:iq w B fb mc F V) (hf:bf w.heap mc (jv .u16) f) (s:∀ y:Nat,f (ay y)=((F.a5++ [x]).findIdx? fun c=>decide (c.flag=y)).map fun i:Nat=>Value.int .i64 i) (hm:Md (fun k=>V.v11.ownBlock=some k) w w1) (q:World.ownsRow w1 B 157 5 v (F.a5++ [x]).length (gT (F.a5++ [x]))) (a:Md (fun k=>k=fb) w1 j) (hc:j.heap[fb]? =some (.cells (iO {F with a5:=F.a5++ [x]} {V with v11:=v} mc).toArray 89 (0,0))):bz j B fb mc {F with a5:=F.a5++ [x]} {V with v11:=v} :=by
 have hT:TF w [159] (fun k=>V.v11.ownBlock=some k):=TF.own h.dY (by decide)
 have hcl:=hm.gR hT h.cells (by decide)
 have hT2:TF w1 [91] (fun k=>k=fb):=TF.eq (cQ hcl) (by decide)
 have hfl:∀ k,V.v11.ownBlock=some k→∀ cur z,w.heap[k]?≠some (.cells cur 71 z):=e9 h.dY (by decide)
 have p:∀ k,k=fb→∀ cur z,w1.heap[k]?≠some (.cells cur 71 z):=ep hcl (by decide)
 have hmt:=bW (hf.md hm (hT.no (bW hf) (by decide)))
 exact ⟨hc,ca (ca h.o9 hm hT (by decide)) a hT2 (by decide),ca (ca h.eH hm hT (by decide)) a hT2 (by decide),(h.al.md hm hfl).md a p,bu q a (fun k hk hf=>cy q hcl (by decide) (hf ▸ hk)),ca (ca h.dG hm hT (by decide)) a hT2 (by decide),(h.nx.md hm hfl).md a p,⟨f,(hf.md hm (hT.no (bW hf) (by decide))).md a (hT2.no hmt (by decide)),s⟩,h.lo,h.fL⟩
theorem bg.DT {w w1 c:World} {B:Nat} {H:bd} {F F':aB} {R:dD} {rows:List Rw} {ln:Nat} {seen:List Tx} {v:Value} {q:eE} (h:bg w B H F R rows ln seen) (hm:Md (fun k=>R.vn.ownBlock=some k) w w1) (i:World.ownsRow w1 B 3 1 v (F.rules++ [q]).length ((F.rules++ [q]).map fun r=>Value.int .i64 (r.line:Nat))) (a:Md (fun k=>k=H.rb) w1 c) (hc:c.heap[H.rb]? =some (.cells (mz H {R with vn:=v} ln).toArray 92 (0,0))) (hr:F'.rules=F.rules++ [q]) (hd:∀ x,cJ F' x=cJ F x):bg c B H F' {R with vn:=v} rows ln seen:=by
 have hT:TF w [5] (fun k=>R.vn.ownBlock=some k):=TF.own h.on (by decide)
 have hcl:=hm.gR hT h.cells (by decide)
 have hT2:TF w1 [94] (fun k=>k=H.rb):=TF.eq (cQ hcl) (by decide)
 obtain ⟨f,hf,j⟩:=h.sm
 obtain ⟨g,hg,hg2⟩:=h.tm
 have hf1:=hf.md hm (hT.no (bW hf) (by decide))
 have hg1:=hg.md hm (hT.no (bW hg) (by decide))
 exact ⟨hc,(h.rws.md hm (e9 h.on (by decide))).md a (ep hcl (by decide)),(h.rt.md hm (e9 h.on (by decide))).md a (ep hcl (by decide)),⟨f,hf1.md a (hT2.no (bW hf1) (by decide)),j⟩,⟨g,hg1.md a (hT2.no (bW hg1) (by decide)),fun x p=>by rw [hd]; exact hg2 x p⟩,by rw [hr]; exact bu i a (fun k hk hf=>cy i hcl (by decide) (hf ▸ hk)),h.lo,h.ne⟩
theorem Bf {cs:List cT} {x:Nat} (h:(du cs x).isSome=false):cs.findIdx? (fun c=>decide (c.flag=x))=none:=by
 rw [List.findIdx?_eq_none_iff]
 unfold du at h
 rw [Option.isSome_eq_false_iff,Option.isNone_iff_eq_none,List.find?_eq_none] at h
 intro c hc
 simpa using h c hc
theorem Am {F:aB} {c:cT} (y:Nat):cJ {F with a5:=F.a5++ [c]} y=(decide (y=c.flag) || cJ F y):=by
 have h1:(du (F.a5++ [c]) y).isSome=((du F.a5 y).isSome || decide (y=c.flag)):=by
  unfold du
  rw [List.find?_append,Option.isSome_or]
  congr 1
  by_cases h:c.flag=y
  · simp [h]
  · simp [h,Ne.symm h]
 unfold cJ
 show (decide (y∈F.sp) || (du (F.a5++ [c]) y).isSome)=_
 rw [h1]
 cases decide (y∈F.sp) <;> cases (du F.a5 y).isSome <;> cases decide (y=c.flag) <;> rfl
theorem zI {F:aB} {c:cT} {f:Value→Option Value} (hd:cJ F c.flag=false) (hf:∀ x:Nat,f (ay x)=(F.a5.findIdx? fun c=>decide (c.flag=x)).map fun i:Nat=>Value.int .i64 i) (y:Nat):aW f (ay c.flag) (.int .i64 (F.a5.length:Nat)) (ay y)=((F.a5++ [c]).findIdx? fun c=>decide (c.flag=y)).map fun i:Nat=>Value.int .i64 i:=by
 unfold cJ at hd
 rw [Bool.or_eq_false_iff] at hd
 rw [List.findIdx?_append]
 by_cases h:y=c.flag
 · subst h
   rw [mx,Bf hd.2]
   simp
 · rw [lB (fun h2=>h (vP h2)),hf y]
   cases F.a5.findIdx? fun c=>decide (c.flag=y) <;> simp [Ne.symm h]
theorem sc {eof ln e:Nat} {F:aB} {rows:List Rw} {r:List Tx} (h:eN F (r.getD 1 [])= .error e):eK eof F rows ln r= .error (ln,e):=by unfold eK; rw [h]
theorem sd {eof ln x:Nat} {F:aB} {rows:List Rw} {r:List Tx} (h:eN F (r.getD 1 [])= .ok x) (h1:r.getD 2 []≠[89]) (h2:r.getD 2 []≠[78]):eK eof F rows ln r= .error (ln,114):=by unfold eK; rw [h]; exact if_pos ⟨h1,h2⟩
theorem zg {eof ln x e:Nat} {F:aB} {rows:List Rw} {r:List Tx} (h:eN F (r.getD 1 [])= .ok x) (h1:r.getD 2 []= [89]∨r.getD 2 []= [78]) (h2:cA (r.getD 3 []) 1024= .error e):eK eof F rows ln r= .error (ln,e):=by
 unfold eK; rw [h]; simp only; rw [if_neg (fun h3=>h1.elim h3.1 h3.2),h2]
theorem zh {eof ln x n:Nat} {F:aB} {rows:List Rw} {r:List Tx} (h:eN F (r.getD 1 [])= .ok x) (h1:r.getD 2 []= [89]∨r.getD 2 []= [78]) (h2:cA (r.getD 3 []) 1024= .ok n) (h3:1024 < F.rules.length+n):eK eof F rows ln r= .error (ln,117):=by
 unfold eK; rw [h]; simp only; rw [if_neg (fun h3=>h1.elim h3.1 h3.2),h2]; simp only; rw [if_pos h3]
theorem o0 {eof ln x n:Nat} {F:aB} {rows:List Rw} {r:List Tx} {e:Nat×Nat} (h:eN F (r.getD 1 [])= .ok x) (h1:r.getD 2 []= [89]∨r.getD 2 []= [78]) (h2:cA (r.getD 3 []) 1024= .ok n) (h3:¬1024 < F.rules.length+n) (h4:group [r.getD 0 [],r.getD 1 []] (gI F.kind F.aliases (⟨x,(if r.getD 0 []=bM then 2 else 1:Nat),(decide (r.getD 2 []= [89])),F.rules.length,n⟩:cT)) eof n rows= .error e):eK eof F rows ln r= .error e:=by
 unfold eK; rw [h]; simp only; rw [if_neg (fun h3=>h1.elim h3.1 h3.2),h2]; simp only; rw [if_neg h3,h4]
theorem zi {eof ln x n:Nat} {F:aB} {rows:List Rw} {r:List Tx} {q:List eE×List Rw} (h:eN F (r.getD 1 [])= .ok x) (h1:r.getD 2 []= [89]∨r.getD 2 []= [78]) (h2:cA (r.getD 3 []) 1024= .ok n) (h3:¬1024 < F.rules.length+n) (h4:group [r.getD 0 [],r.getD 1 []] (gI F.kind F.aliases (⟨x,(if r.getD 0 []=bM then 2 else 1:Nat),(decide (r.getD 2 []= [89])),F.rules.length,n⟩:cT)) eof n rows= .ok q):eK eof F rows ln r= .ok ({F with a5:=F.a5++ [(⟨x,(if r.getD 0 []=bM then 2 else 1:Nat),(decide (r.getD 2 []= [89])),F.rules.length,n⟩:cT)],rules:=F.rules++q.1},q.2):=by
 unfold eK; rw [h]; simp only; rw [if_neg (fun h3=>h1.elim h3.1 h3.2),h2]; simp only; rw [if_neg h3,h4]
theorem se (B:Nat) (H:bd) (F:aB) (rows:List Rw) (ln:Nat) (seen:List Tx) (r:List Tx) (bK:Nat) (M:Option Addr) (O:Nat) (w:World) (a:St w B H F rows ln seen) (hT:Tg w bK 9 r.length (.slice M r.length O) (r.map str)) (hr:r.length=4) (hrl:∀ x∈r,x.length≤70000) (d4:F.bH.length+F.aliases.length+F.a5.length+F.rules.length+rows.length < 70000):
 cI Tryz.prog 65 (List.toArray [.pointer (some ⟨H.rb,0,none⟩),.slice M r.length O]) w (eD B H seen (eK H.eof F rows ln r) w) (eC B H (eK H.eof F rows ln r) w):=by
 obtain ⟨V,R,I,aa,an⟩:=a
 have hTs:=hT.bL
 have ed:(r.getD 1 []).length≤70000:=hrl _ (dW (by omega))
 have ee:(r.getD 2 []).length≤70000:=hrl _ (dW (by omega))
 have ef:(r.getD 3 []).length≤70000:=hrl _ (dW (by omega))
 have hlo:=aa.lo
 have hbl:=an.len
 have hrb0:=(Array.getElem?_eq_some_iff.1 aa.cells).1
 obtain ⟨ci,gS,dF⟩:=db I.dG
 obtain ⟨bO,eV,cc⟩:=db I.dY
 have c9:Hb.aw w.heap H.fb 12=some (.slice ci F.rules.length gS):=by rw [← dF]; exact (aM I.cells).trans rfl
 have d8:Hb.aw w.heap H.fb 11=some (.slice bO F.a5.length eV):=by rw [← cc]; exact (aM I.cells).trans rfl
 have df:∀ b,w.heap.size≤b→¬(V.v11.ownBlock=some b):=fun b hb h=>by have :=cM I.dY h; omega
 obtain ⟨ej,dC,ca⟩:=aa.tm
 refine e4 Tryz.func65 rfl Tryz.ntmps65 rfl ?_
 refine c6 (fun a4 bI=> ∃ (x G:Nat),(eN F (r.getD 1 [])= .ok x)∧(x≠0)∧(cJ F x=false)∧(w.heap.size≤G)∧(bI.heap[G]? =some (.cells [ay x,.int .i64 (1:Nat),.bool false,.int .i64 (F.rules.length:Nat),.int .i64 (0:Nat)].toArray 157 (0,0)))∧(Wk w bI)∧(a4 0= .pointer (some ⟨H.rb,0,none⟩))∧(a4 1= .slice M r.length O)∧(a4 4= .pointer (some ⟨G,0,none⟩))) ?_ ?_
 have A:(fun w'=>Wk w w') w.drew:=(Md.refl _ _).drew
 refine bF (fun w'=>Wk w w') rfl wide A (hp 0 rfl (by kernel_rfl) (fun _ _=>ao (.pointer (some ⟨H.rb,0,none⟩)) rfl) A (hp 1 rfl (by kernel_rfl) (fun _ _=>ao (.slice M r.length O) rfl) A (hp 2 rfl (by kernel_rfl) (fun _ _=>aG bU rfl rfl (by omega) (aj.ok (hTs.2) (bN (by omega)))) A (hp 3 rfl (by kernel_rfl) (fun w' a=>ld bY rfl (Wk.aw a (bB.get (i:=1) hTs.2 (by omega)))) A (hp 5 rfl (by kernel_rfl) (fun _ _=>ao (.pointer (some ⟨H.rb,0,none⟩)) rfl) A (hp 6 rfl (by kernel_rfl) (fun _ _=>nc rfl) A (hp 7 rfl (by kernel_rfl) (fun _ _=>fa dE rfl) A ?_)))))))
 refine hp 8 rfl (by kernel_rfl) (fun w' a=>ld dq rfl (Wk.aw a ((aM aa.cells).trans rfl))) A (hp 9 rfl (by kernel_rfl) (fun _ _=>nc rfl) A (hp 10 rfl (by kernel_rfl) (fun _ _=>fa dw rfl) A (hp 11 rfl (by kernel_rfl) (fun _ _=>fa ju rfl) A (hp 12 rfl (by kernel_rfl) (fun w' a=>ld ko rfl (Wk.aw a (c9))) A (hp 13 rfl (by kernel_rfl) (fun _ _=>bm ou rfl rfl) A (Co (Pn:=fun c w'=> ∃ e,eN F (r.getD 1 [])= .error e∧c=eu 25 ln (e:Nat)∧Wk w.drew w') 4 15 rfl rfl (by kernel_rfl) rfl rfl ?_ (fun c w' s aA I=>by obtain ⟨e,he,h,h2⟩:=s; exact ⟨ln,e,sc he,h,Wk.mw (Md.trans A h2)⟩) ?_))))))
 refine (bq oW (pL B H F V R rows ln seen (r.getD 1 []) w.drew (I.wk A) (aa.wk A) an.kd (by omega)) rfl fun v10 w10 hR10=> ?_)
 obtain ⟨x,Y,hx0,rfl,ax,aX⟩:=hR10
 have ab:(fun w'=>Wk w w') w10:=Md.trans A aX
 refine ⟨ab,?_⟩
 refine hp 14 rfl (by kernel_rfl) (fun _ _=>bZ (ps:= [(0,ay x),(1,.int .i64 (1:Nat)),(3,.int .i64 (F.rules.length:Nat))]) (L:= [ay x,.int .i64 (1:Nat),.bool false,.int .i64 (F.rules.length:Nat),.int .i64 0]) qC rfl (rfl)) ab (he 15 rfl (by kernel_rfl) (fP mM fun G w4 c2 br bb=> ?_))
 have ai:(fun w'=>Wk w w') w4:=Md.trans ab br.md
 refine ⟨ai,?_⟩
 refine he 16 rfl (by kernel_rfl) (fY k3 rfl rfl rfl rfl bb (by decide) fun w5 bo bh=> ?_)
 have aR:(fun w'=>Wk w w') w5:=Md.trans' ai bo (fun k hk h=>by have h1:=Md.size ab; have h2:=Md.size A; omega)
 refine ⟨aR,?_⟩
 exact hn (by kernel_rfl) (tn (⟨x,G,Y,hx0,ax,((by have h1:=Md.size ab; have h2:=Md.size A; omega)),bh,aR,rfl,rfl,rfl⟩))
 refine (fP mM fun G w4 c2 br bb=> ?_)
 have ai:(fun w'=>Wk w w') w4:=Md.trans A br.md
 refine ⟨ai,?_⟩
 refine ll 4 rfl (by kernel_rfl) rfl (bq oW (pL B H F V R rows ln seen (r.getD 1 []) w4 (I.wk ai) (aa.wk ai) an.kd (by omega)) rfl fun v10 w10 hR10=> ?_) (fun c w' s aA I=>by obtain ⟨e,he,h,h2⟩:=s; exact ⟨ln,e,sc he,h,Wk.mw (Md.trans ai h2)⟩)
 obtain ⟨x,Y,hx0,rfl,ax,aX⟩:=hR10
 have ab:(fun w'=>Wk w w') w10:=Md.trans ai aX
 refine ⟨ab,?_⟩
 refine hp 14 rfl (by kernel_rfl) (fun _ _=>bZ (ps:= [(0,ay x),(1,.int .i64 (1:Nat)),(3,.int .i64 (F.rules.length:Nat))]) (L:= [ay x,.int .i64 (1:Nat),.bool false,.int .i64 (F.rules.length:Nat),.int .i64 0]) qC rfl (rfl)) ab (he 16 rfl (by kernel_rfl) (fY k3 rfl rfl rfl rfl (Wk.au aX bb) (by decide) fun w5 bo bh=> ?_))
 have aR:(fun w'=>Wk w w') w5:=Md.trans' ab bo (fun k hk h=>by have h1:=Md.size ab; have h2:=Md.size A; omega)
 refine ⟨aR,?_⟩
 exact hn (by kernel_rfl) (tn (⟨x,G,Y,hx0,ax,((by have h1:=Md.size ab; have h2:=Md.size A; omega)),bh,aR,rfl,rfl,rfl⟩))
 rintro a4 bI ⟨x,G,Y,hx0,ax,hq4,hq1,aV,dk,dl,dm⟩
 refine fx 0 dk (fx 1 dl (fx 4 dm ?_))
 refine c6 (fun a6 aI=>(aI.heap[G]? =some (.cells [ay x,.int .i64 ((if r.getD 0 []=bM then 2 else 1:Nat):Nat),.bool false,.int .i64 (F.rules.length:Nat),.int .i64 (0:Nat)].toArray 157 (0,0)))∧(Wk w aI)∧(a6 0= .pointer (some ⟨H.rb,0,none⟩))∧(a6 1= .slice M r.length O)∧(a6 4= .pointer (some ⟨G,0,none⟩))) ?_ ?_
 refine sq (fun ch bk=>rg rfl (p (ao (.slice M r.length O) rfl) (p (aG bU rfl rfl (by omega) (aj.ok (aj.wk hTs.2 aV) (bN (by omega)))) (p (ld bY rfl (bB.get (i:=0) (aj.wk hTs.2 aV) (by omega))) (p (e5 rfl rfl) (nl (tn (bk _ _ ?_))))))))
 refine cd rfl (fun bv=> ?_) (fun bv=> ?_)
 exact rg rfl (p (fa nH rfl) (e (cV iL rfl rfl (v:= .int .i64 (2:Nat)) rfl hq1 (by show _ < 5; decide) fun w6 cG hB6=>nl (tn (⟨((by rw [if_pos (show r.getD 0 []=bM from bv)]; exact hB6)),((aV.trans' cG (fun k hk h=>by omega))),rfl,rfl,rfl⟩)))))
 exact az (tn (⟨((by rw [if_neg (show ¬r.getD 0 []=bM from bv)]; exact hq1)),aV,rfl,rfl,rfl⟩))
 rintro a6 aI ⟨hq3,Z,dn,dp,dr⟩
 refine fx 0 dn (fx 1 dp (fx 4 dr ?_))
 refine c6 (fun ba cg=>(r.getD 2 []= [89]∨r.getD 2 []= [78])∧(cg=aI)∧(ba 0= .pointer (some ⟨H.rb,0,none⟩))∧(ba 1= .slice M r.length O)∧(ba 4= .pointer (some ⟨G,0,none⟩))) ?_ ?_
 refine rg rfl (p (ao (.pointer (some ⟨H.rb,0,none⟩)) rfl) (p (ao (.slice M r.length O) rfl) (p (aG bU rfl rfl (by omega) (aj.ok (aj.wk hTs.2 Z) (bN (by omega)))) (p (ld bY rfl (bB.get (i:=2) (aj.wk hTs.2 Z) (by omega))) (p (e5 rfl rfl) (p mv (gs (t:=31) rfl (fun a0=> ?_) (fun a0=> ?_))))))))
 refine sk rfl rfl rfl rfl (sk rfl rfl rfl rfl (sk rfl rfl rfl rfl (sk rfl rfl rfl rfl (p (bl rfl) (eP rfl (bq dK (dP H.rb ln _ 114 aI (Wk.aw Z aa.cw) (by decide)) rfl fun dL w37 bs=> ?_) (fun c w' s aA I=>by first | exact absurd s.2.1 (by decide) | exact ⟨ln,114,sd Y a0 (of_decide_eq_false s.2.1),s.1,by rw [s.2.2]; exact Wk.mw Z⟩))))))
 obtain ⟨rfl,ce,rfl⟩:=bs
 exact nl (tn (⟨(.inl a0),rfl,rfl,rfl,rfl⟩))
 refine pg rfl rfl rfl (ao (.slice M r.length O) rfl) (pg rfl rfl rfl (aG bU rfl rfl (by omega) (aj.ok (aj.wk hTs.2 Z) (bN (by omega)))) (pg rfl rfl rfl (ld bY rfl (bB.get (i:=2) (aj.wk hTs.2 Z) (by omega))) (pg rfl rfl rfl (e5 rfl rfl) (p (a7 rfl) (eP rfl (bq dK (dP H.rb ln _ 114 aI (Wk.aw Z aa.cw) (by decide)) rfl fun dL w37 bs=> ?_) (fun c w' s aA I=>by first | exact absurd s.2.1 (by decide) | exact ⟨ln,114,sd Y a0 (of_decide_eq_false s.2.1),s.1,by rw [s.2.2]; exact Wk.mw Z⟩))))))
 obtain ⟨rfl,ce,rfl⟩:=bs
 exact nl (tn (⟨(.inr (of_decide_eq_true ce)),rfl,rfl,rfl,rfl⟩))
 rintro ba cg ⟨aD,dH,ds,dt,du⟩
 refine fx 0 ds (fx 1 dt (fx 4 du ?_))
 subst dH
 refine sq (fun ch bk=>rg rfl (p (ao (.slice M r.length O) rfl) (p (aG bU rfl rfl (by omega) (aj.ok (aj.wk hTs.2 Z) (bN (by omega)))) (p (ld bY rfl (bB.get (i:=2) (aj.wk hTs.2 Z) (by omega))) (p (e5 rfl rfl) (p (fa tp rfl) (e (cV sr rfl rfl (v:= .bool (decide (r.getD 2 []= [89]))) rfl hq3 (by show _ < 5; decide) fun w7 cK cq=> ?_))))))))
 have hE4:=Z.trans' cK (fun k hk h=>by omega)
 refine nl (tn (bk _ _ (sq (fun dQ cx=>rg rfl (p (ao (.pointer (some ⟨H.rb,0,none⟩)) rfl) (p (ao (.slice M r.length O) rfl) (p (aG bU rfl rfl (by omega) (aj.ok (aj.wk hTs.2 hE4) (bN (by omega)))) (p (ld bY rfl (bB.get (i:=3) (aj.wk hTs.2 hE4) (by omega))) ?_))))))))
 refine eP rfl (bq ni (nW H.rb ln (r.getD 3 []) 1024 w7 (Wk.aw hE4 aa.cw) (by omega) (by omega)) rfl fun em eo c0=> ?_) (fun c w' s aA I=>by obtain ⟨e,he,h,h2⟩:=s; exact ⟨ln,e,zg Y aD he,h,Wk.mw (hE4.trans h2)⟩)
 obtain ⟨n,hnx,rfl,hE47⟩:=c0
 have hnl:=qd hnx
 refine p (fa pG rfl) (e (cV iL rfl rfl (v:= .int .i64 (n:Nat)) rfl (Wk.au hE47 cq) (by show _ < 5; decide) fun w8 cN cr=> ?_))
 have hE5:=(hE4.trans hE47).trans' cN (fun k hk h=>by omega)
 have hb8:w8.heap[G]? =some (.cells [ay x,.int .i64 ((if r.getD 0 []=bM then 2 else 1:Nat):Nat),.bool (decide (r.getD 2 []= [89])),.int .i64 (F.rules.length:Nat),.int .i64 (n:Nat)].toArray 157 (0,0)):=cr
 refine nl (tn (cx _ _ (sq (fun dR cz=>rg rfl (p (ao (.pointer (some ⟨H.rb,0,none⟩)) rfl) (p (fa BO rfl) (p (ld cX rfl ((aM hb8).trans rfl)) (p (fa pG rfl) ?_))))))))
 refine p (ld cX rfl ((aM hb8).trans rfl)) (p (a8 ((F.rules.length+n:Nat):Int) rfl rfl (aH (by omega) (by omega))) (p (le rfl rfl) (eP rfl (bq dK (dP H.rb ln _ 117 w8 (Wk.aw hE5 aa.cw) (by decide)) rfl fun en w56 c1=> ?_) (fun c w' s aA I=>⟨ln,117,zh Y aD hnx (by have :=of_decide_eq_false s.2.1; omega),s.1,by rw [s.2.2]; exact Wk.mw hE5⟩))))
 obtain ⟨rfl,dI,rfl⟩:=c1
 have aU:¬1024 < F.rules.length+n:=by have :=of_decide_eq_true dI; omega
 have hR5:=aa.wk hE5
 have hF5:=I.wk hE5
 have ht5:=dC.wk hE5
 refine nl (tn (cz _ _ (sq (fun dS cA=> ?_))))
 have ae:(fun w'=>Wk w56 w') w56.drew:=(Md.refl _ _).drew
 refine c5 (fun w'=>Wk w56 w') 8 rfl wide ae (lq 0 rfl (by kernel_rfl) (fun _ _=>ao (.pointer (some ⟨H.rb,0,none⟩)) rfl) ae (lq 1 rfl (by kernel_rfl) (fun _ _=>nc rfl) ae (lq 2 rfl (by kernel_rfl) (fun _ _=>fa pI rfl) ae (lq 3 rfl (by kernel_rfl) (fun w' a=>ld lT rfl (Wk.aw a ((aM hR5.cells).trans rfl))) ae (lq 4 rfl (by kernel_rfl) (fun _ _=>fa pF rfl) ae (lq 5 rfl (by kernel_rfl) (fun w' a=>ld bc rfl (Wk.aw a ((aM hb8).trans rfl))) ae (lq 6 rfl (by kernel_rfl) (fun w' a=>iT c7 jf kB (bf.md (ht5) a id) rfl rfl (⟨_,rfl⟩) (show _=Value.int .i64 0 from (ca x hx0).trans (by rw [ax]; rfl))) ae ?_)))))))
 refine lq 7 rfl (by kernel_rfl) (fun _ _=>a8 ((1:Nat):Int) rfl rfl (aH (by omega) (by omega))) ae (bJ 8 rfl (by kernel_rfl) (by kernel_rfl) (lI c7 kB (ht5.wk ae) rfl rfl rfl (⟨_,rfl⟩) fun aJ cL cS=> ?_))
 have hM7x:=eS cL
 have hR7:bg aJ B H {F with a5:=F.a5++ [(⟨x,(if r.getD 0 []=bM then 2 else 1:Nat),(decide (r.getD 2 []= [89])),F.rules.length,n⟩:cT)]} R rows ln seen:=hR5.ml hM7x cS rfl (vJ ax ca (fun y _=>Am y))
 have hF7:=hF5.ml hR5 hM7x
 have hb9:=hM7x.au hb8 (fun h=>ht5.jy (h ▸ hb8))
 have hT7:=(hT.wk hE5).md hM7x (fun k hk cur z hg=>by subst hk; exact ht5.jy hg)
 have hMw7:=(Wk.mw hE5).trans (cH.mt hR5 hM7x)
 obtain ⟨cf,bx,dc⟩:=hF7.cm
 have c8:Hb.aw aJ.heap H.fb 11=some (.slice bO F.a5.length eV):=by rw [← cc]; exact (aM hF7.cells).trans rfl
 refine c4 (by kernel_rfl) ?_
 refine tn (cA _ _ (sq (fun dT cB=> ?_)))
 have C:(fun w'=>Wk aJ w') aJ.drew:=(Md.refl _ _).drew
 refine c5 (fun w'=>Wk aJ w') 18 rfl wide C (lq 0 rfl (by kernel_rfl) (fun _ _=>ao (.pointer (some ⟨H.rb,0,none⟩)) rfl) C (lq 1 rfl (by kernel_rfl) (fun _ _=>nc rfl) C (lq 2 rfl (by kernel_rfl) (fun _ _=>fa dE rfl) C (lq 3 rfl (by kernel_rfl) (fun w' a=>ld dq rfl (Wk.aw a ((aM hR7.cells).trans rfl))) C (lq 4 rfl (by kernel_rfl) (fun _ _=>nc rfl) C (lq 5 rfl (by kernel_rfl) (fun _ _=>fa tt rfl) C (lq 6 rfl (by kernel_rfl) (fun w' a=>ld lT rfl (Wk.aw a ((aM hF7.cells).trans rfl))) C ?_)))))))
 refine lq 7 rfl (by kernel_rfl) (fun _ _=>fa pF rfl) C (lq 8 rfl (by kernel_rfl) (fun w' a=>ld bc rfl (Wk.aw a ((aM hb9).trans rfl))) C (lq 9 rfl (by kernel_rfl) (fun _ _=>ao (.pointer (some ⟨H.rb,0,none⟩)) rfl) C (lq 10 rfl (by kernel_rfl) (fun _ _=>nc rfl) C (lq 11 rfl (by kernel_rfl) (fun _ _=>fa dE rfl) C (lq 12 rfl (by kernel_rfl) (fun w' a=>ld dq rfl (Wk.aw a ((aM hR7.cells).trans rfl))) C (lq 13 rfl (by kernel_rfl) (fun _ _=>nc rfl) C (lq 14 rfl (by kernel_rfl) (fun _ _=>fa dw rfl) C ?_)))))))
 refine lq 15 rfl (by kernel_rfl) (fun _ _=>fa lj rfl) C (lq 16 rfl (by kernel_rfl) (fun w' a=>ld m4 rfl (Wk.aw a (c8))) C (lq 17 rfl (by kernel_rfl) (fun _ _=>bm vS rfl rfl) C (bJ 18 rfl (by kernel_rfl) (by kernel_rfl) (lI c7 kB (bx.wk C) rfl rfl rfl (⟨_,rfl⟩) fun aK cO cU=> ?_))))
 have cW:bf aK.heap H.mc (jv .u16) (aW cf (ay x) (.int .i64 (F.a5.length:Nat))):=cU
 have hM8x:=eS cO
 have bu:TF aJ [1] (fun k=>k=H.mc):=TF.eq (bW bx) (by decide)
 have hX8:=(A8 hF7).md (L:= [1]) hM8x bu (by decide)
 have hR8:=hR7.md (L:= [1]) hM8x bu (by decide) hR7.ne.2.1 hR7.ne.2.2
 have hb10:=hM8x.gR bu hb9 (by decide)
 have hT8x:=hT7.md hM8x (fun k hk cur z hg=>by subst hk; exact bx.jy hg)
 have hMw8:=hMw7.trans (hM8x.mono (fun k _ hk=>⟨hk ▸ hF7.lo.2,.inr (.inr (.inl hk))⟩))
 have hn4:=df G hq4
 have aT:¬(V.v11.ownBlock=some H.rb):=cy hX8.dY hR8.cells (by decide)
 have bA:¬(V.v11.ownBlock=some H.fb):=cy hX8.dY hX8.cells (by decide)
 refine c4 (by kernel_rfl) ?_
 refine tn (cB _ _ (sq (fun dU cC=> ?_)))
 have U:(fun w'=>Md (fun k=>V.v11.ownBlock=some k) aK w') aK.drew:=(Md.refl _ _).drew
 refine c5 (fun w'=>Md (fun k=>V.v11.ownBlock=some k) aK w') 18 rfl wide U (bj 0 rfl (by kernel_rfl) (fun _=>ao (.pointer (some ⟨H.rb,0,none⟩)) rfl) (fun _=>U) (bj 1 rfl (by kernel_rfl) (fun _=>nc rfl) (fun _=>U) (bj 2 rfl (by kernel_rfl) (fun _=>fa dE rfl) (fun _=>U) (fu 3 rfl (by kernel_rfl) (fun w' a=>ld dq rfl (Md.aw a ((aM hR8.cells).trans rfl) aT)) U (bj 4 rfl (by kernel_rfl) (fun _=>ao (.pointer (some ⟨H.rb,0,none⟩)) rfl) (fun _=>U) (bj 5 rfl (by kernel_rfl) (fun _=>nc rfl) (fun _=>U) (bj 6 rfl (by kernel_rfl) (fun _=>fa dE rfl) (fun _=>U) ?_)))))))
 refine fu 7 rfl (by kernel_rfl) (fun w' a=>ld dq rfl (Md.aw a ((aM hR8.cells).trans rfl) aT)) U (bj 8 rfl (by kernel_rfl) (fun _=>nc rfl) (fun _=>U) (bj 9 rfl (by kernel_rfl) (fun _=>fa dw rfl) (fun _=>U) (bj 10 rfl (by kernel_rfl) (fun _=>fa lj rfl) (fun _=>U) (fu 11 rfl (by kernel_rfl) (fun w' a=>ld m4 rfl (Md.aw a ((aM hX8.cells).trans rfl) bA)) U (fu 12 rfl (by kernel_rfl) (fun w' a=>da lR rfl (rfl) (fun j dd=>a9.bE ⟨_,Md.au a hb10 hn4⟩ j)) U (fK 13 rfl (by kernel_rfl) (kr oe rfl rfl rfl fun d3 w96 d7 bS cs=> ?_)))))))
 have hE96:=eS bS.md
 have hX9:=hX8.wk hE96
 have hR9:=hR8.wk hE96
 have hsz9:=(Array.getElem?_eq_some_iff.1 hR9.cells).1
 have b2:(fun w'=>Md (fun k=>V.v11.ownBlock=some k) aK w') w96:=U.trans' bS.md (fun _ _ h=>h.elim)
 refine ⟨b2,?_⟩
 refine fK 14 rfl (by kernel_rfl) (ap oe (hX9.dY) rfl (by omega) rfl (aj.dZ cs) (rfl) (rfl) (by omega) (by omega) fun bG w97 b8 av ei ec=> ?_)
 have hMw9:=(hMw8.trans (Wk.mw hE96)).trans (Mw.of av (TF.own hX9.dY (by decide)) (fun k hk=>(cM hX9.dY hk).1))
 have hR10:=bg.own hR9 hX9.dY av (by decide)
 have hc10:=av.au hX9.cells (cy hX9.dY hX9.cells (by decide))
 have hb11:=av.au (Wk.au hE96 hb10) hn4
 have hT10:=(hT8x.wk hE96).md av (e9 hX9.dY (by decide))
 have dj:World.ownsRow w97 B 157 5 bG (F.a5++ [(⟨x,(if r.getD 0 []=bM then 2 else 1:Nat),(decide (r.getD 2 []= [89])),F.rules.length,n⟩:cT)]).length (gT (F.a5++ [(⟨x,(if r.getD 0 []=bM then 2 else 1:Nat),(decide (r.getD 2 []= [89])),F.rules.length,n⟩:cT)])):=by rw [show gT (F.a5++ [(⟨x,(if r.getD 0 []=bM then 2 else 1:Nat),(decide (r.getD 2 []= [89])),F.rules.length,n⟩:cT)])=gT F.a5++jq (⟨x,(if r.getD 0 []=bM then 2 else 1:Nat),(decide (r.getD 2 []= [89])),F.rules.length,n⟩:cT) from by simp [gT],List.length_append]; exact b8
 have aZ:(fun w'=>Md (fun k=>V.v11.ownBlock=some k) aK w') w97:=b2.trans' av (fun _ _ h=>h)
 refine ⟨aZ,?_⟩
 refine bj 15 rfl (by kernel_rfl) (fun _=>nc rfl) (fun _=>aZ) (bj 16 rfl (by kernel_rfl) (fun _=>fa dw rfl) (fun _=>aZ) (bj 17 rfl (by kernel_rfl) (fun _=>fa lj rfl) (fun _=>aZ) (bJ 18 rfl (by kernel_rfl) (by kernel_rfl) (cV sw rfl rfl (v:=bG) (dx b8) hc10 (by show _ < 14; omega) fun w9 hM9 bi=> ?_))))
 have hF11:=iq.xA (x:=(⟨x,(if r.getD 0 []=bM then 2 else 1:Nat),(decide (r.getD 2 []= [89])),F.rules.length,n⟩:cT)) hX9 (cW.wk hE96) (zI (c:=(⟨x,(if r.getD 0 []=bM then 2 else 1:Nat),(decide (r.getD 2 []= [89])),F.rules.length,n⟩:cT)) ax dc) av dj hM9 bi
 have hR11:=bg.nB hR10 hc10 hM9
 have hb12:=hM9.au hb11 (fun h=>by rw [h,hc10] at hb11; cases hb11)
 have hT11:=hT10.md hM9 (ep hc10 (by decide))
 have hMw10:=hMw9.trans (Mw.of hM9 (TF.eq (cQ hc10) (by decide)) (fun k hk=>hk ▸ hX9.lo.1))
 refine c4 (by kernel_rfl) ?_
 refine tn (cC _ _ (sq (fun dV cD=>rg rfl (p (fa pG rfl) (p (ld cX rfl ((aM hb12).trans rfl)) (p mv (nl (tn (cD _ _ ?_)))))))))
 refine au (lp (fun bP aL wI=> ∃ (i:Nat) (xs:List eE) (aF:List Rw) (a1:Nat) (E:cR) (R':dD),(i≤n)∧(eb [r.getD 0 [],r.getD 1 []] (gI F.kind F.aliases (⟨x,(if r.getD 0 []=bM then 2 else 1:Nat),(decide (r.getD 2 []= [89])),F.rules.length,n⟩:cT)) H.eof (group [r.getD 0 [],r.getD 1 []] (gI F.kind F.aliases (⟨x,(if r.getD 0 []=bM then 2 else 1:Nat),(decide (r.getD 2 []= [89])),F.rules.length,n⟩:cT)) H.eof n rows) xs (n - i) aF)∧(xs.length=i)∧(bz wI B H.fb H.mc {F with a5:=F.a5++ [(⟨x,(if r.getD 0 []=bM then 2 else 1:Nat),(decide (r.getD 2 []= [89])),F.rules.length,n⟩:cT)],rules:=F.rules++xs} E)∧(bg wI B H {F with a5:=F.a5++ [(⟨x,(if r.getD 0 []=bM then 2 else 1:Nat),(decide (r.getD 2 []= [89])),F.rules.length,n⟩:cT)],rules:=F.rules++xs} R' aF a1 seen)∧(fE {F with a5:=F.a5++ [(⟨x,(if r.getD 0 []=bM then 2 else 1:Nat),(decide (r.getD 2 []= [89])),F.rules.length,n⟩:cT)],rules:=F.rules++xs} aF seen)∧(cH B H w wI)∧(wI.heap[G]? =some (.cells [ay x,.int .i64 ((if r.getD 0 []=bM then 2 else 1:Nat):Nat),.bool (decide (r.getD 2 []= [89])),.int .i64 (F.rules.length:Nat),.int .i64 (n:Nat)].toArray 157 (0,0)))∧(Tg wI bK 9 r.length (.slice M r.length O) (r.map str))∧(aL 0= .pointer (some ⟨H.rb,0,none⟩))∧(aL 1= .slice M r.length O)∧(aL 4= .pointer (some ⟨G,0,none⟩))∧(aL 102= .int .i64 (n:Nat))∧(aL 103= .int .i64 (i:Nat))∧(n - i=bP)) _ ⟨0,[],rows,ln,{V with v11:=bG},R,(by omega),eb.start,rfl,((by rw [List.append_nil]; exact hF11)),((by rw [List.append_nil]; exact hR11)),(⟨by simp only [List.length_append,List.length_singleton,List.length_nil]; omega,an.sl,an.row,an.kd,an.al⟩),hMw10,hb12,hT11,rfl,rfl,rfl,rfl,rfl,rfl⟩ ?_)
 rintro bP aL wI ⟨i,xs,aF,a1,E,R',hi,aC,hxl,bQ,ag,aP,hMw,b9,aS,dv,dy,dB,dz,dA,rfl⟩
 refine fx 0 dv (fx 1 dy (fx 4 dB (fx 102 dz (fx 103 dA (sq (fun dX cE=>rg rfl (p (lt rfl rfl) (nl (tn (cE _ _ (sq (fun d0 cF=>cd rfl (fun c3=> ?_) (fun c3=> ?_)))))))))))))
 refine az (tn (cF _ _ (sq (fun dM ct=>au (sq (fun dN cu=> ?_))))))
 have ah:(fun w'=>Md (fun k=>k=H.rb) wI w') wI.drew:=(Md.refl _ _).drew
 refine bF (fun w'=>Md (fun k=>k=H.rb) wI w') rfl wide ah (hp 0 rfl (by kernel_rfl) (fun _ _=>ao (.pointer (some ⟨H.rb,0,none⟩)) rfl) ah (hp 1 rfl (by kernel_rfl) (fun _ _=>ao (.slice M r.length O) rfl) ah (hp 2 rfl (by kernel_rfl) (fun _ _=>aG bU rfl rfl (by omega) (aj.ok (aS.bL.2) (bN (by omega)))) ah (hp 3 rfl (by kernel_rfl) (fun w' a=>ld bY rfl (bB.get (i:=0) (aS.md a (ep ag.cells (by decide))).bL.2 (by omega))) ah (hp 4 rfl (by kernel_rfl) (fun _ _=>ao (.slice M r.length O) rfl) ah (hp 5 rfl (by kernel_rfl) (fun _ _=>aG bU rfl rfl (by omega) (aj.ok (aS.bL.2) (bN (by omega)))) ah (hp 6 rfl (by kernel_rfl) (fun w' a=>ld bY rfl (bB.get (i:=1) (aS.md a (ep ag.cells (by decide))).bL.2 (by omega))) ah ?_)))))))
 refine he 7 rfl (by kernel_rfl) (kW (L:= [str (r.getD 0 []),str (r.getD 1 [])]) fc rfl rfl rfl rfl fun ck w14 hb14 bR co=> ?_)
 have hE14:Wk wI w14:=eS bR.md
 have hMw14:=hMw.trans (Wk.mw hE14)
 have bT:(fun w'=>Md (fun k=>k=H.rb) wI w') w14:=ah.trans' bR.md (fun _ _ h=>h.elim)
 refine ⟨bT,?_⟩
 refine ll 8 rfl (by kernel_rfl) rfl (bq oX (pR B H {F with a5:=F.a5++ [(⟨x,(if r.getD 0 []=bM then 2 else 1:Nat),(decide (r.getD 2 []= [89])),F.rules.length,n⟩:cT)],rules:=F.rules++xs} R' aF a1 seen [r.getD 0 [],r.getD 1 []] ck 2 _ _ w14 (ag.wk hE14) (Tg.qf co rfl) rfl (by decide) (fun q bC=>(aP.row q bC).2.1)) rfl fun el w15 cZ=> ?_) (fun c w' s aA I=>by
  obtain ⟨h1,h2⟩:=s
  have hm:=hMw14.trans (cH.rb (ag.wk hE14) h2)
  rcases h1 with ⟨rfl,h3⟩ | ⟨a2,aE,rest,rfl,h4,h3⟩
  exact ⟨_,_,o0 Y aD hnx aU (aC.ends (by omega)),h3,hm⟩
  exact ⟨_,_,o0 Y aD hnx aU (aC.other (by omega) h4),h3,hm⟩)
 obtain ⟨a2,aE,rest,rfl,cb,⟨am,hR2⟩,hT15,hM15⟩:=cZ
 obtain ⟨cj,nd,rfl⟩:=hT15.slice
 have hF2:=(bQ.wk hE14).rb (ag.wk hE14) hM15
 have hMw2:=hMw14.trans (cH.rb (ag.wk hE14) hM15)
 have hrow:aE≠[]∧aE.length≤70000∧∀ x∈aE,x.length≤70000:=aP.row (a2,aE) (by simp)
 have hB2:=fE.k6 aP
 have hbl2:=aP.len
 simp only [List.length_cons,List.length_append] at hbl2
 have hT2:=(aS.wk hE14).md hM15 (ep (ag.wk hE14).cells (by decide))
 have hb2:=hM15.au (Wk.au hE14 b9) (fun h=>by have h1:=(ag.wk hE14).cells; rw [← h,Wk.au hE14 b9] at h1; cases h1)
 have bV:(fun w'=>Md (fun k=>k=H.rb) wI w') w15:=bT.trans' hM15 (fun _ _ h=>h)
 refine ⟨bV,?_⟩
 refine hp 9 rfl (by kernel_rfl) (fun _ _=>ak) bV (hn (by kernel_rfl) (tn (cu _ _ (sq (fun dO cv=> ?_)))))
 have aT:¬(E.di.ownBlock=some H.rb):=cy hF2.dG hR2.cells (by decide)
 have bA:¬(E.di.ownBlock=some H.fb):=cy hF2.dG hF2.cells (by decide)
 have de:¬(E.di.ownBlock=some G):=cy hF2.dG hb2 (by decide)
 have J:(fun w'=>Md (fun k=>E.di.ownBlock=some k) w15 w') w15.drew:=(Md.refl _ _).drew
 refine c5 (fun w'=>Md (fun k=>E.di.ownBlock=some k) w15 w') 21 rfl wide J (bj 0 rfl (by kernel_rfl) (fun _=>ao (.pointer (some ⟨H.rb,0,none⟩)) rfl) (fun _=>J) (bj 1 rfl (by kernel_rfl) (fun _=>nc rfl) (fun _=>J) (bj 2 rfl (by kernel_rfl) (fun _=>fa dE rfl) (fun _=>J) (fu 3 rfl (by kernel_rfl) (fun w' a=>ld dq rfl (Md.aw a ((aM hR2.cells).trans rfl) aT)) J (bj 4 rfl (by kernel_rfl) (fun _=>ao (.pointer (some ⟨H.rb,0,none⟩)) rfl) (fun _=>J) (bj 5 rfl (by kernel_rfl) (fun _=>nc rfl) (fun _=>J) (bj 6 rfl (by kernel_rfl) (fun _=>fa dE rfl) (fun _=>J) ?_)))))))
 refine fu 7 rfl (by kernel_rfl) (fun w' a=>ld dq rfl (Md.aw a ((aM hR2.cells).trans rfl) aT)) J (bj 8 rfl (by kernel_rfl) (fun _=>nc rfl) (fun _=>J) (bj 9 rfl (by kernel_rfl) (fun _=>fa dw rfl) (fun _=>J) (bj 10 rfl (by kernel_rfl) (fun _=>fa ju rfl) (fun _=>J) (fu 11 rfl (by kernel_rfl) (fun w' a=>ld ko rfl (Md.aw a ((aM hF2.cells).trans rfl) bA)) J (bj 12 rfl (by kernel_rfl) (fun _=>ao (.pointer (some ⟨H.rb,0,none⟩)) rfl) (fun _=>J) (fu 13 rfl (by kernel_rfl) (fun w' a=>da lR rfl (rfl) (fun j dd=>a9.bE ⟨_,Md.au a hb2 de⟩ j)) J (bj 14 rfl (by kernel_rfl) (fun _=>mv) (fun _=>J) ?_)))))))
 refine ug 15 rfl (by kernel_rfl) rfl (bq xU (Fc B H {F with a5:=F.a5++ [(⟨x,(if r.getD 0 []=bM then 2 else 1:Nat),(decide (r.getD 2 []= [89])),F.rules.length,n⟩:cT)],rules:=F.rules++xs} E am rest a2 seen (⟨x,(if r.getD 0 []=bM then 2 else 1:Nat),(decide (r.getD 2 []= [89])),F.rules.length,n⟩:cT) aE B cj nd w15.drew (hF2.wk (Md.refl _ _).drew) (hR2.wk (Md.refl _ _).drew) hB2 (by show (if r.getD 0 []=bM then 2 else 1)=1∨(if r.getD 0 []=bM then 2 else 1)=2; split <;> simp) (hT15.wk (Md.refl _ _).drew) hrow.2) rfl fun ek w129 cY=> ?_) (fun c w' s aA I=>by obtain ⟨e,he,h,h2⟩:=s; exact ⟨_,_,o0 Y aD hnx aU (aC.bad (by omega) cb he),h,hMw2.trans (Wk.mw (eS h2))⟩)
 obtain ⟨q,bC,hql,⟨vn,rfl,b5⟩,hE129⟩:=cY
 obtain ⟨aN,aO,rfl⟩:=b5.slice
 have hE129:=eS hE129
 have bX:(fun w'=>Md (fun k=>E.di.ownBlock=some k) w15 w') w129:=Md.mono hE129 (fun _ _ h=>h.elim)
 refine ⟨bX,?_⟩
 refine fK 16 rfl (by kernel_rfl) (kr og rfl rfl rfl fun d1 w130 d5 bp cn=> ?_)
 have hE130:=hE129.trans bp.md
 have hF4:=hF2.wk hE130
 have hR4:=hR2.wk hE130
 have hT4:=hT2.wk hE130
 have hb4x:=Wk.au hE130 hb2
 have hTq4:=b5.wk bp.md
 have hsz4:=(Array.getElem?_eq_some_iff.1 hR4.cells).1
 have b0:(fun w'=>Md (fun k=>E.di.ownBlock=some k) w15 w') w130:=bX.trans' bp.md (fun _ _ h=>h.elim)
 refine ⟨b0,?_⟩
 refine fK 17 rfl (by kernel_rfl) (ap og (hF4.dG) rfl (by omega) rfl (aj.dZ cn) (rfl) (rfl) (by simp only [List.length_append]; omega) (by simp only [List.length_append]; omega) fun bD w131 b6 aq eg d9=> ?_)
 have hMw5:=(hMw2.trans (Wk.mw hE130)).trans (Mw.of aq (TF.own hF4.dG (by decide)) (fun k hk=>(cM hF4.dG hk).1))
 have hR5x:=bg.own hR4 hF4.dG aq (by decide)
 have hc5:=aq.au hF4.cells (cy hF4.dG hF4.cells (by decide))
 have hb5:=aq.au hb4x (cy hF4.dG hb4x (by decide))
 have hT5:=hT4.md aq (e9 hF4.dG (by decide))
 have dg:World.ownsRow w131 B 155 7 bD ((F.rules++xs)++ [q]).length (eI (((F.rules++xs)++ [q]).zip (E.rn++ [.slice aN q.next.length aO]))):=by
  have dJ:(F.rules++xs).length=E.rn.length:=by have :=hF4.nx.1; rw [List.length_map] at this; exact this.symm
  rw [List.zip_append dJ,show eI ((F.rules++xs).zip E.rn++ [q].zip [.slice aN q.next.length aO])=eI ((F.rules++xs).zip E.rn)++fW (q,.slice aN q.next.length aO) from by simp [eI],List.length_append]
  exact b6
 have aY:(fun w'=>Md (fun k=>E.di.ownBlock=some k) w15 w') w131:=b0.trans' aq (fun _ _ h=>h)
 refine ⟨aY,?_⟩
 refine bj 18 rfl (by kernel_rfl) (fun _=>nc rfl) (fun _=>aY) (bj 19 rfl (by kernel_rfl) (fun _=>fa dw rfl) (fun _=>aY) (bj 20 rfl (by kernel_rfl) (fun _=>fa ju rfl) (fun _=>aY) (bJ 21 rfl (by kernel_rfl) (by kernel_rfl) (cV sx rfl rfl (v:=bD) (dx b6) hc5 (by show _ < 14; omega) fun w9 hM9 bi=> ?_))))
 have hF6:=bz.xB (x:=q) (vx:= .slice aN q.next.length aO) hF4 hTq4 aq dg hM9 bi
 have hR6:=bg.nB hR5x hc5 hM9
 have hb6x:=hM9.au hb5 (fun h=>by rw [h,hc5] at hb5; cases hb5)
 have hT6:=hT5.md hM9 (ep hc5 (by decide))
 have hMw6:=hMw5.trans (Mw.of hM9 (TF.eq (cQ hc5) (by decide)) (fun k hk=>hk ▸ hF4.lo.1))
 refine c4 (by kernel_rfl) ?_
 refine tn (cv _ _ ?_)
 have ac:(fun w'=>Md (fun k=>am.vn.ownBlock=some k) w9 w') w9.drew:=(Md.refl _ _).drew
 refine c5 (fun w'=>Md (fun k=>am.vn.ownBlock=some k) w9 w') 13 rfl wide ac (bj 0 rfl (by kernel_rfl) (fun _=>ao (.pointer (some ⟨H.rb,0,none⟩)) rfl) (fun _=>ac) (bj 1 rfl (by kernel_rfl) (fun _=>ao (.pointer (some ⟨H.rb,0,none⟩)) rfl) (fun _=>ac) (bj 2 rfl (by kernel_rfl) (fun _=>nc rfl) (fun _=>ac) (bj 3 rfl (by kernel_rfl) (fun _=>fa pJ rfl) (fun _=>ac) (fu 4 rfl (by kernel_rfl) (fun w' a=>ld q5 rfl (Md.aw a ((aM hR6.cells).trans rfl) (cy hR6.on hR6.cells (by decide)))) ac (bj 5 rfl (by kernel_rfl) (fun _=>ao (.pointer (some ⟨H.rb,0,none⟩)) rfl) (fun _=>ac) (bj 6 rfl (by kernel_rfl) (fun _=>nc rfl) (fun _=>ac) ?_)))))))
 refine bj 7 rfl (by kernel_rfl) (fun _=>fa l9 rfl) (fun _=>ac) (fu 8 rfl (by kernel_rfl) (fun w' a=>ld cX rfl (Md.aw a ((aM hR6.cells).trans rfl) (cy hR6.on hR6.cells (by decide)))) ac (fK 9 rfl (by kernel_rfl) (gh oa rfl rfl fun d2 w144 d6 cP cp=> ?_)))
 have hE144:=eS cP.md
 have hR7x:=hR6.wk hE144
 have hF7x:=hF6.wk hE144
 have hsz7:=(Array.getElem?_eq_some_iff.1 hR7x.cells).1
 have b1:(fun w'=>Md (fun k=>am.vn.ownBlock=some k) w9 w') w144:=Md.mono hE144 (fun _ _ h=>h.elim)
 refine ⟨b1,?_⟩
 refine fK 10 rfl (by kernel_rfl) (ap oa (hR7x.on) rfl (by omega) rfl (aj.dZ cp) (rfl) (rfl) (by simp only [List.length_append]; omega) (by simp only [List.length_append]; omega) fun a3 w145 b7 ar eh ea=> ?_)
 have hMw7x:=(hMw6.trans (Wk.mw hE144)).trans (Mw.of ar (TF.own hR7x.on (by decide)) (fun k hk=>(cM hR7x.on hk).1))
 have b4:TF w144 [5] (fun k=>am.vn.ownBlock=some k):=TF.own hR7x.on (by decide)
 have hF8x:=hF7x.md ar b4 (by decide) (fun h=>by obtain ⟨f,hf,_⟩:=hF7x.cm; exact b4.no (bW hf) (by decide) h)
 have hc8:=ar.au hR7x.cells (cy hR7x.on hR7x.cells (by decide))
 have hb8x:=ar.au (Wk.au hE144 hb6x) (cy hR7x.on (Wk.au hE144 hb6x) (by decide))
 have hT8y:=(hT6.wk hE144).md ar (e9 hR7x.on (by decide))
 have dh:World.ownsRow w145 B 3 1 a3 ((F.rules++xs)++ [q]).length (((F.rules++xs)++ [q]).map fun r=>Value.int .i64 (r.line:Nat)):=by
  rw [List.map_append,List.length_append]
  show World.ownsRow w145 B 3 1 a3 _ (_++ [Value.int .i64 (q.line:Nat)])
  rw [hql]
  exact b7
 have bt:(fun w'=>Md (fun k=>am.vn.ownBlock=some k) w9 w') w145:=b1.trans' ar (fun _ _ h=>h)
 refine ⟨bt,?_⟩
 refine bj 11 rfl (by kernel_rfl) (fun _=>nc rfl) (fun _=>bt) (bj 12 rfl (by kernel_rfl) (fun _=>fa pJ rfl) (fun _=>bt) (bJ 13 rfl (by kernel_rfl) (by kernel_rfl) (cV Ae rfl rfl (v:=a3) (dx b7) hc8 (by show _ < 7; omega) fun w10 aQ cl=> ?_)))
 have b3:TF w145 [94] (fun k=>k=H.rb):=TF.eq (cQ hc8) (by decide)
 have hF9x:=hF8x.md aQ b3 (by decide) (fun h=>by obtain ⟨f,hf,_⟩:=hF8x.cm; exact b3.no (bW hf) (by decide) h)
 refine c4 (by kernel_rfl) ?_
 exact bn (tn (ct _ _ (rg rfl (p (ad rfl rfl (bw (by omega))) (p mv (nl (tn (⟨_,by omega,i+1,xs++ [q],rest,a2,{E with di:=bD,rn:=E.rn++ [.slice aN q.next.length aO]},{am with vn:=a3},(by omega),((by rw [show n - (i+1)=n - i - 1 by omega]; exact aC.step (by omega) cb bC)),((by rw [List.length_append,hxl]; rfl)),((by rw [← List.append_assoc]; exact hF9x)),((by rw [← List.append_assoc]; exact bg.DT (q:=q) hR7x ar dh aQ cl rfl (fun _=>rfl))),(⟨by simp only [List.length_append,List.length_singleton]; omega,hB2.sl,hB2.row,hB2.kd,hB2.al⟩),((hMw7x.trans (Mw.of aQ (TF.eq (cQ hc8) (by decide)) (fun k hk=>hk ▸ hR7x.lo.1)))),((aQ.au hb8x (fun h=>by rw [h,hc8] at hb8x; cases hb8x))),((hT8y.md aQ (ep hc8 (by decide)))),rfl,rfl,rfl,rfl,rfl,rfl⟩))))))))
 refine ext (te _ (te _ (be (eM ?_))))
 refine f0 rfl ?_
 rw [show n - i=0 by omega] at aC
 exact ⟨rfl,_,aF,a1,zi Y aD hnx aU aC.done,⟨E,R',bQ,ag,aP⟩,hMw⟩
end Go.Hb.j8
end
section
set_option maxRecDepth 20000
set_option maxHeartbeats 1000000
namespace Go.Hb.lP
open Go.Hb.cG
open Go.Proofs
open Go.Hb.eJ Go.Hb.fg Go.Hb.jg Go.Hb.fz Go.Hb.im Go.Hb.j8 Go.Hb.jj Go.Hb.gP Go.Hb.ke Go.Hb.fG Go.Hb.kP Go.Hb.lQ Go.Hb.fZ Go.Hb.fN
def nk:cT:=⟨0,0,false,0,0⟩
theorem Be {x:Nat} :∀ {cs:List cT} {i:Nat},cs.findIdx? (fun c=>decide (c.flag=x))=some i→∃ c,cs[i]? =some c∧du cs x=some c:=by
 intro cs
 induction cs with
 | nil=>intro i h; simp at h
 | cons a l ih=>
   intro i h
   rw [List.findIdx?_cons] at h
   unfold du
   rw [List.find?_cons]
   by_cases p:a.flag=x
   · simp only [p,decide_true,if_true] at h ⊢
     cases h
     exact ⟨a,rfl,rfl⟩
   · simp only [p,decide_false] at h ⊢
     simp only [Bool.false_eq_true,if_false,Option.map_eq_some_iff] at h
     obtain ⟨j,q,rfl⟩:=h
     obtain ⟨c,h1,h2⟩:=ih q
     exact ⟨c,by simpa using h1,h2⟩
theorem D8 {F:aB} {x:Nat} (h:x=F.sp.getD 0 0):gW F x=true :=by unfold gW; rw [decide_eq_true h]; rfl
theorem D9 {F:aB} {x:Nat} (h:(du F.a5 x).isSome=true) (hk:((du F.a5 x).getD nk).kind=2):gW F x=true :=by
 unfold gW
 obtain ⟨c,hc⟩:=Option.isSome_iff_exists.1 h
 rw [hc] at hk ⊢
 simp only [Option.getD_some] at hk
 simp [hk]
theorem qh {F:aB} {x:Nat} (h0:x≠F.sp.getD 0 0) (h:(du F.a5 x).isSome=true) (hk:((du F.a5 x).getD nk).kind≠2):gW F x=false :=by
 unfold gW
 obtain ⟨c,hc⟩:=Option.isSome_iff_exists.1 h
 rw [hc] at hk ⊢
 simp only [Option.getD_some] at hk
 rw [decide_eq_false h0]
 simp [hk]
theorem qi {F:aB} {x:Nat} (h0:x≠F.sp.getD 0 0) (h:(du F.a5 x).isSome=false):gW F x=false :=by
 unfold gW
 rw [decide_eq_false h0]
 cases hc:du F.a5 x with
 | none=>rfl
 | some c=>rw [hc] at h; cases h
theorem kV {F:aB} {q:eE} {j:Nat} (a:j < q.next.length) (h:gW F (q.next.getD j 0)=false):iz F q=true :=by
 unfold iz
 rw [List.any_eq_true]
 exact ⟨_,dW a,by rw [h]; rfl⟩
theorem xF {F:aB} {q:eE} (h:∀ j,j < q.next.length→gW F (q.next.getD j 0)=true):iz F q=false :=by
 unfold iz
 rw [List.any_eq_false]
 intro x c
 obtain ⟨j,a,rfl⟩:=mi 0 c
 rw [h j a]; simp
theorem lg {p:eE→Bool} {q:eE} :∀ {l:List eE} {i:Nat},(∀ j c,j < i→l[j]? =some c→p c=false)→l[i]? =some q→p q=true→l.find? p=some q:=by
 intro l
 induction l with
 | nil=>intro i _ h; simp at h
 | cons a l ih=>
   intro i s hi hp
   rw [List.find?_cons]
   cases i with
   | zero=>simp only [List.getElem?_cons_zero,Option.some.injEq] at hi; subst hi; rw [hp]
   | succ i=>
     rw [s 0 a (by omega) rfl]
     exact ih (i:=i) (fun j c C A=>s (j+1) c (by omega) (by simpa using A)) (by simpa using hi) hp
theorem Bi {p:eE→Bool} {l:List eE} (h:∀ j c,j < l.length→l[j]? =some c→p c=false):l.find? p=none:=by
 rw [List.find?_eq_none]
 intro q i
 obtain ⟨j,a⟩:=List.getElem?_of_mem i
 rw [h j q (List.getElem?_eq_some_iff.1 a).1 a]; simp
theorem Bg {x:Nat} {cs:List cT} (h:cs.findIdx? (fun c=>decide (c.flag=x))=none):du cs x=none:=by
 rw [List.findIdx?_eq_none_iff] at h
 unfold du
 rw [List.find?_eq_none]
 intro c hc
 simpa using h c hc
theorem sV (B fb mc:Nat) (F:aB) (V:cR) (x:Nat) (w:World) (q:bz w B fb mc F V) (aH:F.a5.length≤70000):
 aK Tryz.prog 67 (List.toArray [aU fb,ay x]) w (fun v w'=>v= .tuple #[.agg (jq ((du F.a5 x).getD nk)).toArray,.bool (du F.a5 x).isSome]∧Wk w w'):=by
 obtain ⟨ad,eV,I⟩:=db q.dY
 have ho11:=q.dY
 rw [I] at ho11
 have ao:Hb.aw w.heap fb 11=some (.slice ad F.a5.length eV):=by rw [← I]; exact (aM q.cells).trans rfl
 obtain ⟨f,hf,ar⟩:=q.cm
 obtain ⟨iv,ob,au,ax,E⟩:∃ (iv:Nat) (ob:Bool),(f (ay x)).getD (.int .i64 0)=U iv∧(f (ay x)).isSome=ob∧((ob=false∧du F.a5 x=none)∨(ob=true∧∃ c,F.a5[iv]? =some c∧du F.a5 x=some c)):=by
  rw [ar x]
  cases hfi:F.a5.findIdx? (fun c=>decide (c.flag=x)) with
  | none=>exact ⟨0,false,rfl,rfl,.inl ⟨rfl,Bg hfi⟩⟩
  | some i=>exact ⟨i,true,rfl,rfl,.inr ⟨rfl,Be hfi⟩⟩
 refine enter Tryz.func67 rfl Tryz.ntmps67 rfl ?_
 refine aa (fun _ J=>(e (al mM fun aD w4 aF a C=>ae (((J _ _ (sq (fun _ M=>sq (fun _ O=> ?_)))))))))
 refine rg rfl (ab (aU fb) (p (fQ iY rfl rfl) (ag ((O _ _ (cf (rfl) (az (tn (M _ _ ?_)))))))))
 refine aa (fun _ Y=>(ab (aU fb) (p (nc rfl) (p (fa tt rfl) (p (ld lT rfl (Wk.aw a.md ((aM q.cells).trans rfl))) (ab (ay x) (p (ur c7 jf kB (hf.wk a.md) rfl rfl (⟨_,rfl⟩) (au) (ax)) ?_)))))))
 refine p mv (p (xt rfl rfl) (p (xt rfl rfl) (p ak (ae (((Y _ _ (sq (fun _ Z=> ?_)))))))))
 refine aa (fun _ ac=>(p mv (p (no rfl) (ag ((ac _ _ (cb rfl (fun A=> ?_) (fun A=> ?_))))))))
 have aC:ob=false :=by simpa using A
 have aq:du F.a5 x=none:=by rcases E with ⟨_,h⟩ | ⟨h,_⟩; exact h; rw [aC] at h; cases h
 refine aa (fun _ s=>(p (bZ (ps:= []) (L:= [.int .u16 0,.int .i64 0,.bool false,.int .i64 0,.int .i64 0]) qC rfl (rfl)) (e (bC k3 rfl rfl rfl rfl (C) (by simp) fun aI am ah=>ae (((s _ _ (rt ?_))))))))
 exact tr (ee rfl (cW (cs:=jq nk) rfl lR rfl (fun j av=>ah.bE j)) dB (⟨by rw [aq]; rfl,a.md.trans' am (fun k hk h=>by omega)⟩))
 have hob1:ob=true :=by simpa using A
 obtain ⟨c,G,ap⟩:∃ c,F.a5[iv]? =some c∧du F.a5 x=some c:=by rcases E with ⟨h,_⟩ | ⟨_,h⟩; rw [hob1] at h; cases h; exact h
 have hivl:=(List.getElem?_eq_some_iff.1 G).1
 have ho11x:=aE ho11 a.md
 refine az (tn (Z _ _ (aa (fun _ s=>(ab (aU fb) (p (nc rfl) (p (fa dw rfl) (p (fa lj rfl) ?_))))))))
 refine p (ld m4 rfl (Wk.aw a.md ao)) (p mv (p (aG A6 rfl rfl (by omega) (aj.ok ((aA ho11x).2) (fun h=>by have :=congrArg List.length h; rw [show (gT F.a5).length=F.a5.length*5 from jW (f:=jq) (m:=5) (fun _=>rfl) _] at this; simp at this; omega))) (p (da lR rfl (rfl) (iP (f:=jq) (m:=5) (fun _=>rfl) (aA ho11x).2 G)) (e (bC k3 rfl rfl rfl rfl (C) (by simp) fun aJ an ai=>ae (((s _ _ ?_))))))))
 exact rt (ee rfl (cW (cs:=jq c) rfl lR rfl (fun j av=>ai.bE j)) dB (⟨by rw [ap]; rfl,a.md.trans' an (fun k hk h=>by omega)⟩))
theorem y7 (B:Nat) (H:bd) (F:aB) (rows:List Rw) (ln:Nat) (seen:List Tx) (w:World) (bf:St w B H F rows ln seen) (hnx:∀ q∈F.rules,q.next.length≤64):
 cI Tryz.prog 35 (List.toArray [.pointer (some ⟨H.rb,0,none⟩)]) w (fun v w'=>v= .tuple #[]∧F.rules.find? (iz F)=none∧(∃ V R' ah,bz w' B H.fb H.mc F V∧bg w' B H F R' rows ah seen)∧cH B H w w') (fun c w'=> ∃ q,F.rules.find? (iz F)=some q∧c=eu 25 q.line 118∧cH B H w w'):=by
 obtain ⟨V,R,G,ac,aP⟩:=bf
 obtain ⟨ai,gS,aE⟩:=db G.dG
 have ho12:=G.dG
 rw [aE] at ho12
 have bh:Hb.aw w.heap H.fb 12=some (.slice ai F.rules.length gS):=by rw [← aE]; exact (aM G.cells).trans rfl
 obtain ⟨vr,vs,vn⟩:=R
 obtain ⟨Z,cv,bI⟩:=db ac.on
 obtain rfl :vn= .slice Z F.rules.length cv:=bI
 have hbl:=aP.len
 have hlo:=ac.lo
 refine e4 Tryz.func35 rfl Tryz.ntmps35 rfl ?_
 refine sq (fun bM aU=>rg rfl (p (ao (.pointer (some ⟨H.rb,0,none⟩)) rfl) (p (nc rfl) (p (fa dE rfl) (p (ld dq rfl ((aM ac.cells).trans rfl)) (p (nc rfl) (p (fa dw rfl) ?_)))))))
 refine p (fa ju rfl) (p (ld ko rfl (bh)) (p (bm ou rfl rfl) (p mv (nl (tn (aU _ _ (au (lp (fun M Y wI=> ∃ (i ah:Nat),(i≤F.rules.length)∧(∀ j q,j < i→F.rules[j]? =some q→iz F q=false)∧(bz wI B H.fb H.mc F V)∧(bg wI B H F ⟨vr,vs,.slice Z F.rules.length cv⟩ rows ah seen)∧(cH B H w wI)∧(Y 0= .pointer (some ⟨H.rb,0,none⟩))∧(Y 15= .slice ai F.rules.length gS)∧(Y 16= .int .i64 (F.rules.length:Nat))∧(Y 17= .int .i64 (i:Nat))∧(F.rules.length - i=M)) _ ⟨0,ln,(by omega),((fun j q aJ=>by omega)),G,ac,(Md.refl _ _),rfl,rfl,rfl,rfl,rfl⟩ ?_))))))))
 rintro M Y wI ⟨i,ah,hi,C,ab,ar,hMw,br,bs,bt,bu,rfl⟩
 refine fx 0 br (fx 15 bs (fx 16 bt (fx 17 bu (sq (fun bS aX=>rg rfl (p (lt rfl rfl) (nl (tn (aX _ _ (sq (fun bT aZ=>cd rfl (fun hc18=> ?_) (fun hc18=> ?_))))))))))))
 refine az (tn (aZ _ _ (sq (fun bU a0=>au (sq (fun bV a1=> ?_))))))
 have ho12I:=ab.dG
 rw [aE] at ho12I
 have aI:i < F.rules.length:=by omega
 obtain ⟨vn,bH,ax⟩:=bO.get ab.nx (i:=i) (by rw [List.length_map]; exact aI)
 obtain ⟨q,s⟩:∃ q,F.rules[i]? =some q:=⟨_,List.getElem?_eq_getElem aI⟩
 have bp:(F.rules.map (·.next)).getD i []=q.next:=by rw [List.getD_eq_getElem?_getD,List.getElem?_map,s]; rfl
 rw [bp] at ax
 have hqnl:=hnx q (List.mem_of_getElem? s)
 obtain ⟨am,an,rfl⟩:=ax.slice
 have aK:(F.rules.zip V.rn)[i]? =some (q,.slice am q.next.length an):=by rw [List.getElem?_zip_eq_some]; exact ⟨s,bH⟩
 have aL:(eI (F.rules.zip V.rn)).length=(F.rules.zip V.rn).length*7:=jW (f:=fW) (m:=7) (fun _=>rfl) _
 have bk:(F.rules.map fun r=>Value.int .i64 (r.line:Nat))[i]? =some (.int .i64 (q.line:Nat)):=by rw [List.getElem?_map,s]; rfl
 refine rg rfl (p (ao (.int .i64 (i:Nat)) rfl) (p (aG pq rfl rfl (by omega) (aj.ok ((aA ho12I).2) (fun h=>by rw [h] at aL; have h2:0=(F.rules.zip V.rn).length*7:=aL; have h3:=(List.getElem?_eq_some_iff.1 aK).1; omega))) ?_))
 refine p (da oF rfl (rfl) (iP (f:=fW) (m:=7) (fun _=>rfl) (aA ho12I).2 aK)) (e (al qN fun b1 w3 b3 aH aR=> ?_))
 skip
 refine p (bA (.int .i64 (i:Nat)) rfl) (e (bC o7 rfl rfl rfl rfl (aR) (by simp) fun wt2_5 a6 aQ=> ?_))
 have aa:Wk wI wt2_5:=aH.md.trans' a6 (fun k hk h=>by omega)
 have hF3:=ab.wk aa
 have hR3:=ar.wk aa
 have hz3:=aH.size
 have hlr:=(Array.getElem?_eq_some_iff.1 ar.cells).1
 refine nl (tn (a1 _ _ (sq (fun bW a2=>rg rfl (p (ao (.pointer (some ⟨H.rb,0,none⟩)) rfl) (p (ao (.pointer (some ⟨H.rb,0,none⟩)) rfl) (p (nc rfl) (p (fa pJ rfl) ?_))))))))
 refine p (ld q5 rfl ((aM hR3.cells).trans rfl)) (p (ao (.int .i64 (i:Nat)) rfl) (p (aG A5 rfl rfl (by omega) (aj.ok ((aA hR3.on).2) (by simp; intro h; rw [h] at s; simp at s))) (p (ld cX rfl (aj.g7 (aA hR3.on).2 bk)) (p (nc rfl) (p (fa l9 rfl) (e (cV iL rfl rfl (v:= .int .i64 (q.line:Nat)) rfl hR3.cells (by show _ < 7; decide) fun w9 hM9 aT=> ?_)))))))
 have hR9:=hR3.bX (R':=⟨vr,vs,.slice Z F.rules.length cv⟩) (ln':=q.line) hM9 aT rfl hR3.rws hR3.rt
 have hF9:=hF3.rb hR3 hM9
 have hb9:=hM9.B aQ (fun h=>by omega)
 have hT9:=(ax.wk aa).md hM9 (ep hR3.cells (by decide))
 have hMw9:=(hMw.trans (Wk.mw aa)).trans (cH.rb hR3 hM9)
 refine nl (tn (a2 _ _ (sq (fun bY a3=>rg rfl (p (fa nG rfl) (p (ld km rfl ((hb9.aw 6).trans rfl)) (p (bm iZ rfl rfl) (p mv ?_))))))))
 refine nl (tn (a3 _ _ (au (lp (fun M E J=> ∃ (j:Nat),(j≤q.next.length)∧(∀ U,U < j→gW F (q.next.getD U 0)=true)∧(bz J B H.fb H.mc F V)∧(bg J B H F ⟨vr,vs,.slice Z F.rules.length cv⟩ rows q.line seen)∧(cH B H w J)∧(Tg J B 71 q.next.length (.slice am q.next.length an) (q.next.map ay))∧(E 0= .pointer (some ⟨H.rb,0,none⟩))∧(E 15= .slice ai F.rules.length gS)∧(E 16= .int .i64 (F.rules.length:Nat))∧(E 17= .int .i64 (i:Nat))∧(E 33= .slice am q.next.length an)∧(E 34= .int .i64 (q.next.length:Nat))∧(E 35= .int .i64 (j:Nat))∧(q.next.length - j=M)) _ ⟨0,(by omega),((fun U bj=>by omega)),hF9,hR9,hMw9,hT9,rfl,rfl,rfl,rfl,rfl,rfl,rfl,rfl⟩ ?_))))
 rintro M E J ⟨j,aJ,aC,ap,av,aF,ae,bv,bx,bB,bD,bE,bF,bG,rfl⟩
 refine fx 0 bv (fx 15 bx (fx 16 bB (fx 17 bD (fx 33 bE (fx 34 bF (fx 35 bG (sq (fun bZ a4=>rg rfl (p (lt rfl rfl) (nl (tn (a4 _ _ (sq (fun b0 a5=>cd rfl (fun bi=> ?_) (fun bi=> ?_)))))))))))))))
 refine az (tn (a5 _ _ (sq (fun bP aq=>au (sq (fun bQ aV=> ?_))))))
 have bJ:(q.next.map ay)[j]? =some (ay (q.next.getD j 0)):=by rw [List.getElem?_map,List.getD_eq_getElem?_getD,List.getElem?_eq_getElem (by omega :j < q.next.length)]; rfl
 refine rg rfl (p (aG aY rfl rfl (by omega) (aj.ok (ae.bL.2) (bN (by omega)))) (p (ld bc rfl (aj.g7 ae.bL.2 bJ)) (p ak (nl (tn (aV _ _ (sq (fun bR aW=>rg rfl ?_))))))))
 refine p (ao (.pointer (some ⟨H.rb,0,none⟩)) rfl) (p (nc rfl) (p (fa dE rfl) (p (ld dq rfl ((aM av.cells).trans rfl)) (p mv (e (cl rY (sV B H.fb H.mc F V (q.next.getD j 0) _ ap (by omega)) rfl fun b4 w45 bb=> ?_))))))
 obtain ⟨rfl,hE45⟩:=bb
 have hz45:=hE45.size
 refine p mv (p (xt rfl rfl) (p (xt rfl rfl) (e (al mM fun b2 w6 hb6 a9 hB6=>e (bC k3 rfl rfl rfl rfl (hB6) (by simp) fun wt7_10 a8 aS=> ?_)))))
 have hE7:Wk J wt7_10:=(hE45.trans a9.md).trans' a8 (fun k hk h=>by omega)
 have hF7:=ap.wk hE7
 have hR7:=av.wk hE7
 have hMw7:=aF.trans (Wk.mw hE7)
 refine p ak (nl (tn (aW _ _ (rg rfl (p (ao (.pointer (some ⟨H.rb,0,none⟩)) rfl) (p mv (p (ao (.pointer (some ⟨H.rb,0,none⟩)) rfl) (p (nc rfl) ?_))))))))
 refine p (fa dE rfl) (p (ld dq rfl ((aM hR7.cells).trans rfl)) (p (nc rfl) (p (fa dw rfl) (p (fa tq rfl) (p (h8 oI rfl rfl (by omega)) (p (ld bc rfl ((aM hF7.cells).trans rfl)) (p (ba rfl rfl) ?_)))))))
 refine p mv (gs (t:=60) rfl (fun I=> ?_) (fun I=> ?_))
 refine sk rfl rfl rfl rfl (sk rfl rfl rfl rfl (ig rfl rfl rfl (ig rfl rfl rfl (ig rfl rfl rfl (sk rfl rfl rfl rfl (p (bl rfl) ?_))))))
 refine eP rfl (bq dK (dP H.rb q.line _ 118 wt7_10 hR7.cw (by decide)) rfl fun aN w68 O=> ?_) (fun c w' a aO G=>by
  first
   | exact absurd a.2.1 (by decide)
   | exact ⟨q,lg C s (kV (j:=j) (by omega) (qh (fun h=>I (by rw [h])) A (by have :=of_decide_eq_false a.2.1; omega))),a.1,by rw [a.2.2]; exact hMw7⟩
   | exact ⟨q,lg C s (kV (j:=j) (by omega) (qi (fun h=>I (by rw [h])) (by simpa using A))),a.1,by rw [a.2.2]; exact hMw7⟩)
 obtain ⟨rfl,ag,rfl⟩:=O
 refine nl (bn (tn (aq _ _ (rg rfl (p (ad rfl rfl (bw (by omega))) (p mv (nl (tn ?_))))))))
 exact ⟨_,by omega,j+1,(by omega),((fun k hk=>by rcases Nat.lt_or_ge k j with h | h <;> first | exact aC k h | (rw [show k=j by omega]; exact D8 (by omega)))),hF7,hR7,hMw7,(ae.wk hE7),rfl,rfl,rfl,rfl,rfl,rfl,rfl,rfl⟩
 refine pg rfl rfl rfl mv (pg rfl rfl rfl mv (gb (t:=62) rfl (fun A=> ?_) (fun A=> ?_)))
 refine pg rfl rfl rfl (fa nH rfl) (pg rfl rfl rfl (ld cX rfl ((aS.aw 1).trans rfl)) (pg rfl rfl rfl (ba rfl rfl) (pg rfl rfl rfl (bl rfl) (p (a7 rfl) ?_))))
 refine eP rfl (bq dK (dP H.rb q.line _ 118 wt7_10 hR7.cw (by decide)) rfl fun aN w68 O=> ?_) (fun c w' a aO G=>by
  first
   | exact absurd a.2.1 (by decide)
   | exact ⟨q,lg C s (kV (j:=j) (by omega) (qh (fun h=>I (by rw [h])) A (by have :=of_decide_eq_false a.2.1; omega))),a.1,by rw [a.2.2]; exact hMw7⟩
   | exact ⟨q,lg C s (kV (j:=j) (by omega) (qi (fun h=>I (by rw [h])) (by simpa using A))),a.1,by rw [a.2.2]; exact hMw7⟩)
 obtain ⟨rfl,ag,rfl⟩:=O
 refine nl (bn (tn (aq _ _ (rg rfl (p (ad rfl rfl (bw (by omega))) (p mv (nl (tn ?_))))))))
 exact ⟨_,by omega,j+1,(by omega),((fun k hk=>by rcases Nat.lt_or_ge k j with h | h <;> first | exact aC k h | (rw [show k=j by omega]; exact D9 A (by have :=of_decide_eq_true ag; omega)))),hF7,hR7,hMw7,(ae.wk hE7),rfl,rfl,rfl,rfl,rfl,rfl,rfl,rfl⟩
 refine sk rfl rfl rfl rfl (sk rfl rfl rfl rfl (sk rfl rfl rfl rfl (pg rfl rfl rfl (a7 rfl) (p (a7 rfl) ?_))))
 refine eP rfl (bq dK (dP H.rb q.line _ 118 wt7_10 hR7.cw (by decide)) rfl fun aN w68 O=> ?_) (fun c w' a aO G=>by
  first
   | exact absurd a.2.1 (by decide)
   | exact ⟨q,lg C s (kV (j:=j) (by omega) (qh (fun h=>I (by rw [h])) A (by have :=of_decide_eq_false a.2.1; omega))),a.1,by rw [a.2.2]; exact hMw7⟩
   | exact ⟨q,lg C s (kV (j:=j) (by omega) (qi (fun h=>I (by rw [h])) (by simpa using A))),a.1,by rw [a.2.2]; exact hMw7⟩)
 obtain ⟨rfl,ag,rfl⟩:=O
 refine nl (bn (tn (aq _ _ (rg rfl (p (ad rfl rfl (bw (by omega))) (p mv (nl (tn ?_))))))))
 exact absurd ag (by decide)
 refine ext (te _ (te _ (be (bn (tn (a0 _ _ (rg rfl (p (ad rfl rfl (bw (by omega))) ?_))))))))
 exact p mv (nl (tn (⟨_,by omega,i+1,q.line,(by omega),((fun k bK hk aD=>by rcases Nat.lt_or_ge k i with h | h <;> first | exact C k bK h aD | (rw [show k=i by omega,s] at aD; cases aD; exact xF (fun U bj=>aC U (by omega))))),ap,av,aF,rfl,rfl,rfl,rfl,rfl⟩)))
 refine ext (te _ (te _ (be (eM ?_))))
 refine f0 rfl ?_
 exact ⟨rfl,Bi (fun j q aJ bo=>C j q (by omega) bo),⟨V,_,_,ab,ar⟩,hMw⟩
end Go.Hb.lP
end
section
set_option maxRecDepth 20000
set_option maxHeartbeats 1000000
namespace Go.Hb.qP
open Go.Hb.cG
open Go.Proofs
open Go.Hb.eJ
theorem EK (q s:Nat) (w:World):
 CallsD Tryz.prog 31 (List.toArray [.pointer (some ⟨q,0,none⟩),.pointer (some ⟨s,0,none⟩)]) .returning w (fun a u1 w'=> ∃ v,a= .returned v∧u1= .returning∧(fun w'=>Wk w w') w'):=by
 refine r8 (v:= .nilIface) Tryz.func31 rfl Tryz.ntmps31 rfl (fun c₀ cs hc=> .inr ⟨by simp [recoverD,hc],rfl,rfl⟩) ?_
 refine p (FX p7 GR rfl) (p mv (p (xt rfl rfl) (p (xt rfl rfl) (e (al eZ fun C G hb2 j hB2=>e (bC dz rfl rfl rfl rfl (hB2) (by simp) fun I i E=>p ak (nl ?_)))))))
 refine tn (sq (fun A c=>rg rfl (p mv (nl (tn (c _ _ (cf (rfl) (az ?_))))))))
 refine f0 rfl ?_
 exact j.md.trans' i (fun k hk h=>by omega)
theorem EJ (a c:Nat) (ln:Nat) (er:Int) (w:World) (h2:∃ v:Value,w.heap[a]? =some (.cells [v].toArray 22 (0,0))) (h3:∃ L:List Value,L.length=3∧w.heap[c]? =some (.cells L.toArray 25 (0,0))) (hne:a≠c):
 CallsD Tryz.prog 31 (List.toArray [.pointer (some ⟨a,0,none⟩),.pointer (some ⟨c,0,none⟩)]) (.panicking (eu 25 ln er)) w (fun M u1 w'=> ∃ v,M= .returned v∧u1=(.panicking [{v:= .iface 25 (.agg [.int .i64 1,.int .i64 (ln:Nat),.int .i64 er].toArray),recovered:=true}])∧(fun w'=>w'.heap[a]? =some (.cells [.pointer none].toArray 22 (0,0))∧w'.heap[c]? =some (.cells [.int .i64 1,.int .i64 (ln:Nat),.int .i64 er].toArray 25 (0,0))∧Md (fun k=>k=a∨k=c) w w') w'):=by
 obtain ⟨v2,h2⟩:=h2
 obtain ⟨G,Z,h3⟩:=h3
 have hl2:=(Array.getElem?_eq_some_iff.1 h2).1
 have hl3:=(Array.getElem?_eq_some_iff.1 h3).1
 refine r8 (v:= .iface 25 (.agg [.int .i64 1,.int .i64 (ln:Nat),.int .i64 er].toArray)) Tryz.func31 rfl Tryz.ntmps31 rfl (fun c₀ cs hc=> .inl (by simp [recoverD,hc,eu])) ?_
 refine p (FW p7 rfl) (p mv (p (xt rfl rfl) (p (xt rfl rfl) (e (al eZ fun J ag hb2 C hB2=>e (bC dz rfl rfl rfl rfl (hB2) (by simp) fun i q O=> ?_))))))
 have V:a9 i.heap J [.int .i64 1,.int .i64 (ln:Nat),.int .i64 er]:=O
 refine p ak (nl (tn (sq (fun ad Y=>rg rfl (p mv (nl (tn (Y _ _ ?_))))))))
 refine ct (rfl) ?_
 have E:(fun w'=>Md (fun k=>k=a∨k=c) i w') i.drew:=(Md.refl _ _).drew
 refine bF (fun w'=>Md (fun k=>k=a∨k=c) i w') rfl wide E (hp 0 rfl (by kernel_rfl) (fun w' aa=>da fO rfl (rfl) (fun j ae=>a9.bE (Md.B aa V (fun h=>by omega)) j)) E (he 1 rfl (by kernel_rfl) (cV o8 rfl rfl (v:= .pointer none) rfl (q.au (Wk.au C.md h2) (fun h=>by omega)) (by show 0 < 1; decide) fun w5 s U=> ?_)))
 have I:(fun w'=>Md (fun k=>k=a∨k=c) i w') w5:=E.trans' s (fun _ _ h=> .inl h)
 refine ⟨I,?_⟩
 refine he 2 rfl (by kernel_rfl) (fY dz rfl rfl rfl rfl (s.au (q.au (Wk.au C.md h3) (fun h=>by omega)) (fun h=>hne h.symm)) (by rw [Z]; decide) fun w6 A hB6=> ?_)
 have ab:(fun w'=>Md (fun k=>k=a∨k=c) i w') w6:=I.trans' A (fun _ _ h=> .inr h)
 refine ⟨ab,?_⟩
 refine hn (by kernel_rfl) (f0 rfl ?_)
 have ac:G.take 0 ++ [Value.int .i64 1,.int .i64 (ln:Nat),.int .i64 er]++G.drop (0 +3)= [Value.int .i64 1,.int .i64 (ln:Nat),.int .i64 er]:=by rw [List.drop_eq_nil_of_le (by omega)]; rfl
 rw [ac] at hB6
 exact ⟨A.au U hne,hB6,(((C.md.mono fun _ _ h=>h.elim).trans' q (fun k hk h=>by omega)).trans' (eS s) (fun _ _ h=> .inl h)).trans' A (fun _ _ h=> .inr h)⟩
theorem u4 (a c:Nat) (w:World):(invoke (.fn (.func 31) #[aU a,aU c]) #[]).run Tryz.prog w= .ok (.enter 31 #[aU a,aU c]) w:=by
 have h:=yB #[aU a,aU c] w
 simp [invoke,h]
theorem nz {n:Nat} {D:List Deferred} {G:List Nat} {σ:Nat→Value} {t:Nat} (h:t < n):ev ⟨n,D,G,none⟩ σ (.tmp t)=σ t:=by
 show cond (Nat.blt t n) (σ t) undef=_
 rw [show Nat.blt t n=true from by simpa using h]; rfl
theorem EO {n:Nat} {G:List Nat} {fn:Func} {R:Value→World→Prop} {σ:Nat→Value} {w:World} {a c ln:Nat} {er:Int} (p:fn.results= #[.cell 2 22,.cell 3 25]) (hlt:3 < n) (q:σ 2= .pointer (some ⟨a,0,none⟩)) (s:σ 3= .pointer (some ⟨c,0,none⟩)) (h2:∃ v:Value,w.heap[a]? =some (.cells [v].toArray 22 (0,0))) (h3:∃ L:List Value,L.length=3∧w.heap[c]? =some (.cells L.toArray 25 (0,0))) (hne:a≠c)
 (i:∀ w',Md (fun k=>k=a∨k=c) w w'→R (.tuple #[.pointer none,.agg [.int .i64 1,.int .i64 (ln:Nat),.int .i64 er].toArray]) w'):qb ⟨n,[{target:= .fn (.func 31) #[.pointer (some ⟨a,0,none⟩),.pointer (some ⟨c,0,none⟩)],args:= #[]}],G,none⟩ (jM Tryz.prog fn R) (.panic (eu 25 ln er)) σ w:=by
 refine Bb (u4 a c w) (EJ a c ln er w h2 h3 hne) ?_
 rintro w' ⟨hc2,hc3,hm⟩
 exact ⟨_,n0 p (gZ (qt ((nz (by omega)).trans q) dq ((aM hc2).trans rfl))) (gZ (cW (cs:= [.int .i64 1,.int .i64 (ln:Nat),.int .i64 er]) ((nz (by omega)).trans s) fO rfl (fun j _=>by rw [Nat.zero_add,aM hc3]; simp))),i w' hm⟩
theorem EP {n:Nat} {G:List Nat} {fn:Func} {R:Value→World→Prop} {σ:Nat→Value} {w:World} {a c:Nat} {v:Value} {L:List Value} (q:fn.results= #[.cell 2 22,.cell 3 25]) (hlt:3 < n) (s:σ 2= .pointer (some ⟨a,0,none⟩)) (A:σ 3= .pointer (some ⟨c,0,none⟩)) (h2:w.heap[a]? =some (.cells [v].toArray 22 (0,0))) (h3:w.heap[c]? =some (.cells L.toArray 25 (0,0))) (i:L.length=3)
 (p:∀ w',Wk w w'→R (.tuple #[v,.agg L.toArray]) w'):qb ⟨n,[{target:= .fn (.func 31) #[.pointer (some ⟨a,0,none⟩),.pointer (some ⟨c,0,none⟩)],args:= #[]}],G,none⟩ (jM Tryz.prog fn R) .ret σ w:=by
 refine Ba (u4 a c w) (EK a c w) ?_
 intro w' hm
 have hc2:=Wk.au hm h2
 have hc3:=Wk.au hm h3
 exact ⟨_,n0 q (gZ (qt ((nz (by omega)).trans s) dq ((aM hc2).trans rfl))) (gZ (cW (cs:=L) ((nz (by omega)).trans A) fO i (fun j _=>by rw [Nat.zero_add,aM hc3]; simp))),p w' hm⟩
end Go.Hb.qP
end
section
set_option maxRecDepth 20000
set_option maxHeartbeats 1000000
namespace Go.Hb.qQ
open Go.Hb.cG
open Go.Proofs
open Go.Hb.eJ Go.Hb.fg Go.Hb.jg Go.Hb.fz Go.Hb.im Go.Hb.j8 Go.Hb.jL Go.Hb.g5
theorem Cd (B:Nat) (H:bd) (F:aB) (rows:List Rw) (ln:Nat) (seen:List Tx) (r:List Tx) (i:Nat) (a:Option Addr) (c:Nat) (w:World) (j:St w B H F rows ln seen) (hT:Tg w i 9 r.length (.slice a r.length c) (r.map str)) (hrl:∀ x∈r,x.length≤70000) (hw:r.length=width (r.getD 0 [])) (s:fj F seen) (q:width (r.getD 0 [])=2→r.getD 0 []∉seen) (p:F.bH.length+F.aliases.length+F.a5.length+F.rules.length+rows.length < 70000) (hk:r.getD 0 []=eQ):cI Tryz.prog 58 (List.toArray [.pointer (some ⟨H.rb,0,none⟩),.slice a r.length c]) w (eD B H seen (bh H.eof F seen rows ln r) w) (eC B H (bh H.eof F seen rows ln r) w):=by
 have h:=C6 B H F rows ln seen r i a c w j hT (by rw [hw,hk]; decide) hrl
 rw [show bh H.eof F seen rows ln r=gE F seen rows ln r from by unfold bh; rw [hk]; rfl]
 exact h
theorem Cl (B:Nat) (H:bd) (F:aB) (rows:List Rw) (ln:Nat) (seen:List Tx) (r:List Tx) (i:Nat) (a:Option Addr) (c:Nat) (w:World) (j:St w B H F rows ln seen) (hT:Tg w i 9 r.length (.slice a r.length c) (r.map str)) (hrl:∀ x∈r,x.length≤70000) (hw:r.length=width (r.getD 0 [])) (s:fj F seen) (q:width (r.getD 0 [])=2→r.getD 0 []∉seen) (p:F.bH.length+F.aliases.length+F.a5.length+F.rules.length+rows.length < 70000) (hk:r.getD 0 []=eW):cI Tryz.prog 59 (List.toArray [.pointer (some ⟨H.rb,0,none⟩),.slice a r.length c]) w (eD B H seen (bh H.eof F seen rows ln r) w) (eC B H (bh H.eof F seen rows ln r) w):=by
 have h:=y4 B H F rows ln seen r i a c w j hT (by rw [hw,hk]; decide) hrl
 rw [show bh H.eof F seen rows ln r=jz F rows ln r from by unfold bh; rw [hk]; rfl]
 exact h
theorem Cn (B:Nat) (H:bd) (F:aB) (rows:List Rw) (ln:Nat) (seen:List Tx) (r:List Tx) (i:Nat) (a:Option Addr) (c:Nat) (w:World) (j:St w B H F rows ln seen) (hT:Tg w i 9 r.length (.slice a r.length c) (r.map str)) (hrl:∀ x∈r,x.length≤70000) (hw:r.length=width (r.getD 0 [])) (s:fj F seen) (q:width (r.getD 0 [])=2→r.getD 0 []∉seen) (p:F.bH.length+F.aliases.length+F.a5.length+F.rules.length+rows.length < 70000) (hk:r.getD 0 []=e7):cI Tryz.prog 60 (List.toArray [.pointer (some ⟨H.rb,0,none⟩),.slice a r.length c]) w (eD B H seen (bh H.eof F seen rows ln r) w) (eC B H (bh H.eof F seen rows ln r) w):=by
 have h:=Gb B H F rows ln seen r i a c w j hT (by rw [hw,hk]; decide) hrl
 rw [show bh H.eof F seen rows ln r=jG F rows ln r from by unfold bh; rw [hk]; rfl]
 exact h
theorem Ch (B:Nat) (H:bd) (F:aB) (rows:List Rw) (ln:Nat) (seen:List Tx) (r:List Tx) (i:Nat) (a:Option Addr) (c:Nat) (w:World) (j:St w B H F rows ln seen) (hT:Tg w i 9 r.length (.slice a r.length c) (r.map str)) (hrl:∀ x∈r,x.length≤70000) (hw:r.length=width (r.getD 0 [])) (q:fj F seen) (p:width (r.getD 0 [])=2→r.getD 0 []∉seen) (s:F.bH.length+F.aliases.length+F.a5.length+F.rules.length+rows.length < 70000) (hk:r.getD 0 []=fq):cI Tryz.prog 61 (List.toArray [.pointer (some ⟨H.rb,0,none⟩),.slice a r.length c]) w (eD B H seen (bh H.eof F seen rows ln r) w) (eC B H (bh H.eof F seen rows ln r) w):=by
 have h:=mF B H F rows ln seen r i a c w j hT (by rw [hw,hk]; decide) hrl (by rw [hk]; decide) (q _ (by rw [hk]; decide) (p (by rw [hk]; decide)))
 rw [show bh H.eof F seen rows ln r=fX F rows ln r from by unfold bh; rw [hk]; rfl]
 exact h
theorem Ce (B:Nat) (H:bd) (F:aB) (rows:List Rw) (ln:Nat) (seen:List Tx) (r:List Tx) (i:Nat) (a:Option Addr) (c:Nat) (w:World) (j:St w B H F rows ln seen) (hT:Tg w i 9 r.length (.slice a r.length c) (r.map str)) (hrl:∀ x∈r,x.length≤70000) (hw:r.length=width (r.getD 0 [])) (q:fj F seen) (p:width (r.getD 0 [])=2→r.getD 0 []∉seen) (s:F.bH.length+F.aliases.length+F.a5.length+F.rules.length+rows.length < 70000) (hk:r.getD 0 []=fC):cI Tryz.prog 61 (List.toArray [.pointer (some ⟨H.rb,0,none⟩),.slice a r.length c]) w (eD B H seen (bh H.eof F seen rows ln r) w) (eC B H (bh H.eof F seen rows ln r) w):=by
 have h:=mF B H F rows ln seen r i a c w j hT (by rw [hw,hk]; decide) hrl (by rw [hk]; decide) (q _ (by rw [hk]; decide) (p (by rw [hk]; decide)))
 rw [show bh H.eof F seen rows ln r=fX F rows ln r from by unfold bh; rw [hk]; rfl]
 exact h
theorem Cf (B:Nat) (H:bd) (F:aB) (rows:List Rw) (ln:Nat) (seen:List Tx) (r:List Tx) (i:Nat) (a:Option Addr) (c:Nat) (w:World) (j:St w B H F rows ln seen) (hT:Tg w i 9 r.length (.slice a r.length c) (r.map str)) (hrl:∀ x∈r,x.length≤70000) (hw:r.length=width (r.getD 0 [])) (q:fj F seen) (p:width (r.getD 0 [])=2→r.getD 0 []∉seen) (s:F.bH.length+F.aliases.length+F.a5.length+F.rules.length+rows.length < 70000) (hk:r.getD 0 []=fJ):cI Tryz.prog 61 (List.toArray [.pointer (some ⟨H.rb,0,none⟩),.slice a r.length c]) w (eD B H seen (bh H.eof F seen rows ln r) w) (eC B H (bh H.eof F seen rows ln r) w):=by
 have h:=mF B H F rows ln seen r i a c w j hT (by rw [hw,hk]; decide) hrl (by rw [hk]; decide) (q _ (by rw [hk]; decide) (p (by rw [hk]; decide)))
 rw [show bh H.eof F seen rows ln r=fX F rows ln r from by unfold bh; rw [hk]; rfl]
 exact h
theorem Cc (B:Nat) (H:bd) (F:aB) (rows:List Rw) (ln:Nat) (seen:List Tx) (r:List Tx) (i:Nat) (a:Option Addr) (c:Nat) (w:World) (j:St w B H F rows ln seen) (hT:Tg w i 9 r.length (.slice a r.length c) (r.map str)) (hrl:∀ x∈r,x.length≤70000) (hw:r.length=width (r.getD 0 [])) (q:fj F seen) (p:width (r.getD 0 [])=2→r.getD 0 []∉seen) (s:F.bH.length+F.aliases.length+F.a5.length+F.rules.length+rows.length < 70000) (hk:r.getD 0 []=fR):cI Tryz.prog 61 (List.toArray [.pointer (some ⟨H.rb,0,none⟩),.slice a r.length c]) w (eD B H seen (bh H.eof F seen rows ln r) w) (eC B H (bh H.eof F seen rows ln r) w):=by
 have h:=mF B H F rows ln seen r i a c w j hT (by rw [hw,hk]; decide) hrl (by rw [hk]; decide) (q _ (by rw [hk]; decide) (p (by rw [hk]; decide)))
 rw [show bh H.eof F seen rows ln r=fX F rows ln r from by unfold bh; rw [hk]; rfl]
 exact h
theorem Ci (B:Nat) (H:bd) (F:aB) (rows:List Rw) (ln:Nat) (seen:List Tx) (r:List Tx) (i:Nat) (a:Option Addr) (c:Nat) (w:World) (j:St w B H F rows ln seen) (hT:Tg w i 9 r.length (.slice a r.length c) (r.map str)) (hrl:∀ x∈r,x.length≤70000) (hw:r.length=width (r.getD 0 [])) (q:fj F seen) (p:width (r.getD 0 [])=2→r.getD 0 []∉seen) (s:F.bH.length+F.aliases.length+F.a5.length+F.rules.length+rows.length < 70000) (hk:r.getD 0 []=gn):cI Tryz.prog 61 (List.toArray [.pointer (some ⟨H.rb,0,none⟩),.slice a r.length c]) w (eD B H seen (bh H.eof F seen rows ln r) w) (eC B H (bh H.eof F seen rows ln r) w):=by
 have h:=mF B H F rows ln seen r i a c w j hT (by rw [hw,hk]; decide) hrl (by rw [hk]; decide) (q _ (by rw [hk]; decide) (p (by rw [hk]; decide)))
 rw [show bh H.eof F seen rows ln r=fX F rows ln r from by unfold bh; rw [hk]; rfl]
 exact h
theorem Cg (B:Nat) (H:bd) (F:aB) (rows:List Rw) (ln:Nat) (seen:List Tx) (r:List Tx) (i:Nat) (a:Option Addr) (c:Nat) (w:World) (j:St w B H F rows ln seen) (hT:Tg w i 9 r.length (.slice a r.length c) (r.map str)) (hrl:∀ x∈r,x.length≤70000) (hw:r.length=width (r.getD 0 [])) (s:fj F seen) (q:width (r.getD 0 [])=2→r.getD 0 []∉seen) (p:F.bH.length+F.aliases.length+F.a5.length+F.rules.length+rows.length < 70000) (hk:r.getD 0 []=gD):cI Tryz.prog 62 (List.toArray [.pointer (some ⟨H.rb,0,none⟩),.slice a r.length c]) w (eD B H seen (bh H.eof F seen rows ln r) w) (eC B H (bh H.eof F seen rows ln r) w):=by
 have h:=C9 B H F rows ln seen r i a c w j hT (by rw [hw,hk]; decide) hrl
 rw [show bh H.eof F seen rows ln r=gF F rows ln r from by unfold bh; rw [hk]; rfl]
 exact h
theorem Ck (B:Nat) (H:bd) (F:aB) (rows:List Rw) (ln:Nat) (seen:List Tx) (r:List Tx) (i:Nat) (a:Option Addr) (c:Nat) (w:World) (j:St w B H F rows ln seen) (hT:Tg w i 9 r.length (.slice a r.length c) (r.map str)) (hrl:∀ x∈r,x.length≤70000) (hw:r.length=width (r.getD 0 [])) (s:fj F seen) (q:width (r.getD 0 [])=2→r.getD 0 []∉seen) (p:F.bH.length+F.aliases.length+F.a5.length+F.rules.length+rows.length < 70000) (hk:r.getD 0 []=e6):cI Tryz.prog 63 (List.toArray [.pointer (some ⟨H.rb,0,none⟩),.slice a r.length c]) w (eD B H seen (bh H.eof F seen rows ln r) w) (eC B H (bh H.eof F seen rows ln r) w):=by
 have h:=EY B H F rows ln seen r i a c w j hT (by rw [hw,hk]; decide) hrl
 rw [show bh H.eof F seen rows ln r=gH H.eof F rows ln r from by unfold bh; rw [hk]; rfl]
 exact h
theorem Cb (B:Nat) (H:bd) (F:aB) (rows:List Rw) (ln:Nat) (seen:List Tx) (r:List Tx) (i:Nat) (a:Option Addr) (c:Nat) (w:World) (j:St w B H F rows ln seen) (hT:Tg w i 9 r.length (.slice a r.length c) (r.map str)) (hrl:∀ x∈r,x.length≤70000) (hw:r.length=width (r.getD 0 [])) (s:fj F seen) (q:width (r.getD 0 [])=2→r.getD 0 []∉seen) (p:F.bH.length+F.aliases.length+F.a5.length+F.rules.length+rows.length < 70000) (hk:r.getD 0 []=eO):cI Tryz.prog 64 (List.toArray [.pointer (some ⟨H.rb,0,none⟩),.slice a r.length c]) w (eD B H seen (bh H.eof F seen rows ln r) w) (eC B H (bh H.eof F seen rows ln r) w):=by
 have h:=xn B H F rows ln seen r i a c w j hT (by rw [hw,hk]; decide) hrl
 rw [show bh H.eof F seen rows ln r=ga H.eof F seen rows ln r from by unfold bh; rw [hk]; rfl]
 exact h
theorem Cj (B:Nat) (H:bd) (F:aB) (rows:List Rw) (ln:Nat) (seen:List Tx) (r:List Tx) (i:Nat) (a:Option Addr) (c:Nat) (w:World) (j:St w B H F rows ln seen) (hT:Tg w i 9 r.length (.slice a r.length c) (r.map str)) (hrl:∀ x∈r,x.length≤70000) (hw:r.length=width (r.getD 0 [])) (s:fj F seen) (q:width (r.getD 0 [])=2→r.getD 0 []∉seen) (p:F.bH.length+F.aliases.length+F.a5.length+F.rules.length+rows.length < 70000) (hk:r.getD 0 []=eR):cI Tryz.prog 65 (List.toArray [.pointer (some ⟨H.rb,0,none⟩),.slice a r.length c]) w (eD B H seen (bh H.eof F seen rows ln r) w) (eC B H (bh H.eof F seen rows ln r) w):=by
 have h:=se B H F rows ln seen r i a c w j hT (by rw [hw,hk]; decide) hrl p
 rw [show bh H.eof F seen rows ln r=eK H.eof F rows ln r from by unfold bh; rw [hk]; rfl]
 exact h
theorem Cm (B:Nat) (H:bd) (F:aB) (rows:List Rw) (ln:Nat) (seen:List Tx) (r:List Tx) (i:Nat) (a:Option Addr) (c:Nat) (w:World) (j:St w B H F rows ln seen) (hT:Tg w i 9 r.length (.slice a r.length c) (r.map str)) (hrl:∀ x∈r,x.length≤70000) (hw:r.length=width (r.getD 0 [])) (s:fj F seen) (q:width (r.getD 0 [])=2→r.getD 0 []∉seen) (p:F.bH.length+F.aliases.length+F.a5.length+F.rules.length+rows.length < 70000) (hk:r.getD 0 []=bM):cI Tryz.prog 65 (List.toArray [.pointer (some ⟨H.rb,0,none⟩),.slice a r.length c]) w (eD B H seen (bh H.eof F seen rows ln r) w) (eC B H (bh H.eof F seen rows ln r) w):=by
 have h:=se B H F rows ln seen r i a c w j hT (by rw [hw,hk]; decide) hrl p
 rw [show bh H.eof F seen rows ln r=eK H.eof F rows ln r from by unfold bh; rw [hk]; rfl]
 exact h
theorem tO (B:Nat) (H:bd) (F:aB) (rows:List Rw) (ln:Nat) (seen:List Tx) (r:List Tx) (i:Nat) (a:Option Addr) (c:Nat) (w:World) (j:St w B H F rows ln seen) (hT:Tg w i 9 r.length (.slice a r.length c) (r.map str)) (hrl:∀ x∈r,x.length≤70000) (hw:r.length=width (r.getD 0 [])) (s:fj F seen) (q:width (r.getD 0 [])=2→r.getD 0 []∉seen) (p:F.bH.length+F.aliases.length+F.a5.length+F.rules.length+rows.length < 70000) {v:Value} (hv:dO (r.getD 0 [])=some v):∃ f:Nat,v= .agg [.int .i64 (width (r.getD 0 []):Nat),.func (.func f) #[] #[]].toArray∧aJ Tryz.prog f∧cI Tryz.prog f (List.toArray [.pointer (some ⟨H.rb,0,none⟩),.slice a r.length c]) w (eD B H seen (bh H.eof F seen rows ln r) w) (eC B H (bh H.eof F seen rows ln r) w):=by
 unfold dO at hv
 by_cases hk:r.getD 0 []=bM
 · rw [if_pos hk] at hv; cases hv; exact ⟨_,by rw [hk]; rfl,rX,Cm B H F rows ln seen r i a c w j hT hrl hw s q p hk⟩
 · rw [if_neg hk] at hv; clear hk
   by_cases hk:r.getD 0 []=eR
   · rw [if_pos hk] at hv; cases hv; exact ⟨_,by rw [hk]; rfl,rX,Cj B H F rows ln seen r i a c w j hT hrl hw s q p hk⟩
   · rw [if_neg hk] at hv; clear hk
     by_cases hk:r.getD 0 []=eO
     · rw [if_pos hk] at hv; cases hv; exact ⟨_,by rw [hk]; rfl,yR,Cb B H F rows ln seen r i a c w j hT hrl hw s q p hk⟩
     · rw [if_neg hk] at hv; clear hk
       by_cases hk:r.getD 0 []=e6
       · rw [if_pos hk] at hv; cases hv; exact ⟨_,by rw [hk]; rfl,yQ,Ck B H F rows ln seen r i a c w j hT hrl hw s q p hk⟩
       · rw [if_neg hk] at hv; clear hk
         by_cases hk:r.getD 0 []=gD
         · rw [if_pos hk] at hv; cases hv; exact ⟨_,by rw [hk]; rfl,yP,Cg B H F rows ln seen r i a c w j hT hrl hw s q p hk⟩
         · rw [if_neg hk] at hv; clear hk
           by_cases hk:r.getD 0 []=gn
           · rw [if_pos hk] at hv; cases hv; exact ⟨_,by rw [hk]; rfl,lX,Ci B H F rows ln seen r i a c w j hT hrl hw s q p hk⟩
           · rw [if_neg hk] at hv; clear hk
             by_cases hk:r.getD 0 []=fR
             · rw [if_pos hk] at hv; cases hv; exact ⟨_,by rw [hk]; rfl,lX,Cc B H F rows ln seen r i a c w j hT hrl hw s q p hk⟩
             · rw [if_neg hk] at hv; clear hk
               by_cases hk:r.getD 0 []=fJ
               · rw [if_pos hk] at hv; cases hv; exact ⟨_,by rw [hk]; rfl,lX,Cf B H F rows ln seen r i a c w j hT hrl hw s q p hk⟩
               · rw [if_neg hk] at hv; clear hk
                 by_cases hk:r.getD 0 []=fC
                 · rw [if_pos hk] at hv; cases hv; exact ⟨_,by rw [hk]; rfl,lX,Ce B H F rows ln seen r i a c w j hT hrl hw s q p hk⟩
                 · rw [if_neg hk] at hv; clear hk
                   by_cases hk:r.getD 0 []=fq
                   · rw [if_pos hk] at hv; cases hv; exact ⟨_,by rw [hk]; rfl,lX,Ch B H F rows ln seen r i a c w j hT hrl hw s q p hk⟩
                   · rw [if_neg hk] at hv; clear hk
                     by_cases hk:r.getD 0 []=e7
                     · rw [if_pos hk] at hv; cases hv; exact ⟨_,by rw [hk]; rfl,yO,Cn B H F rows ln seen r i a c w j hT hrl hw s q p hk⟩
                     · rw [if_neg hk] at hv; clear hk
                       by_cases hk:r.getD 0 []=eW
                       · rw [if_pos hk] at hv; cases hv; exact ⟨_,by rw [hk]; rfl,yN,Cl B H F rows ln seen r i a c w j hT hrl hw s q p hk⟩
                       · rw [if_neg hk] at hv; clear hk
                         by_cases hk:r.getD 0 []=eQ
                         · rw [if_pos hk] at hv; cases hv; exact ⟨_,by rw [hk]; rfl,yM,Cd B H F rows ln seen r i a c w j hT hrl hw s q p hk⟩
                         · rw [if_neg hk] at hv; clear hk
                           cases hv
theorem tK {s:Tx} (hv:dO s=none):width s=0:=by
 unfold dO at hv
 by_cases J:s=bM
 · rw [if_pos J] at hv; cases hv
 · rw [if_neg J] at hv
   by_cases E:s=eR
   · rw [if_pos E] at hv; cases hv
   · rw [if_neg E] at hv
     by_cases a:s=eO
     · rw [if_pos a] at hv; cases hv
     · rw [if_neg a] at hv
       by_cases G:s=e6
       · rw [if_pos G] at hv; cases hv
       · rw [if_neg G] at hv
         by_cases q:s=gD
         · rw [if_pos q] at hv; cases hv
         · rw [if_neg q] at hv
           by_cases C:s=gn
           · rw [if_pos C] at hv; cases hv
           · rw [if_neg C] at hv
             by_cases c:s=fR
             · rw [if_pos c] at hv; cases hv
             · rw [if_neg c] at hv
               by_cases p:s=fJ
               · rw [if_pos p] at hv; cases hv
               · rw [if_neg p] at hv
                 by_cases j:s=fC
                 · rw [if_pos j] at hv; cases hv
                 · rw [if_neg j] at hv
                   by_cases A:s=fq
                   · rw [if_pos A] at hv; cases hv
                   · rw [if_neg A] at hv
                     by_cases M:s=e7
                     · rw [if_pos M] at hv; cases hv
                     · rw [if_neg M] at hv
                       by_cases I:s=eW
                       · rw [if_pos I] at hv; cases hv
                       · rw [if_neg I] at hv
                         by_cases i:s=eQ
                         · rw [if_pos i] at hv; cases hv
                         · rw [if_neg i] at hv
                           unfold width dC; simp [i,I,M,A,j,p,c,C,q,G,a,E,J]
theorem pO (s:Tx):dO s=none∨∃ (wd f:Nat),dO s=some (Value.agg #[.int .i64 (wd:Nat),.func (.func f) #[] #[]])∧width s=wd∧wd≠0:=by
 by_cases a:s=bM
 · exact .inr ⟨4,65,by unfold dO; rw [if_pos a],by rw [a]; decide,by decide⟩
 by_cases c:s=eR
 · exact .inr ⟨4,65,by unfold dO; rw [if_neg a,if_pos c],by rw [c]; decide,by decide⟩
 by_cases i:s=eO
 · exact .inr ⟨2,64,by unfold dO; rw [if_neg a,if_neg c,if_pos i],by rw [i]; decide,by decide⟩
 by_cases j:s=e6
 · exact .inr ⟨2,63,by unfold dO; rw [if_neg a,if_neg c,if_neg i,if_pos j],by rw [j]; decide,by decide⟩
 by_cases p:s=gD
 · exact .inr ⟨2,62,by unfold dO; rw [if_neg a,if_neg c,if_neg i,if_neg j,if_pos p],by rw [p]; decide,by decide⟩
 by_cases q:s=gn
 · exact .inr ⟨2,61,by unfold dO; rw [if_neg a,if_neg c,if_neg i,if_neg j,if_neg p,if_pos q],by rw [q]; decide,by decide⟩
 by_cases A:s=fR
 · exact .inr ⟨2,61,by unfold dO; rw [if_neg a,if_neg c,if_neg i,if_neg j,if_neg p,if_neg q,if_pos A],by rw [A]; decide,by decide⟩
 by_cases C:s=fJ
 · exact .inr ⟨2,61,by unfold dO; rw [if_neg a,if_neg c,if_neg i,if_neg j,if_neg p,if_neg q,if_neg A,if_pos C],by rw [C]; decide,by decide⟩
 by_cases E:s=fC
 · exact .inr ⟨2,61,by unfold dO; rw [if_neg a,if_neg c,if_neg i,if_neg j,if_neg p,if_neg q,if_neg A,if_neg C,if_pos E],by rw [E]; decide,by decide⟩
 by_cases G:s=fq
 · exact .inr ⟨2,61,by unfold dO; rw [if_neg a,if_neg c,if_neg i,if_neg j,if_neg p,if_neg q,if_neg A,if_neg C,if_neg E,if_pos G],by rw [G]; decide,by decide⟩
 by_cases I:s=e7
 · exact .inr ⟨2,60,by unfold dO; rw [if_neg a,if_neg c,if_neg i,if_neg j,if_neg p,if_neg q,if_neg A,if_neg C,if_neg E,if_neg G,if_pos I],by rw [I]; decide,by decide⟩
 by_cases J:s=eW
 · exact .inr ⟨2,59,by unfold dO; rw [if_neg a,if_neg c,if_neg i,if_neg j,if_neg p,if_neg q,if_neg A,if_neg C,if_neg E,if_neg G,if_neg I,if_pos J],by rw [J]; decide,by decide⟩
 by_cases M:s=eQ
 · exact .inr ⟨2,58,by unfold dO; rw [if_neg a,if_neg c,if_neg i,if_neg j,if_neg p,if_neg q,if_neg A,if_neg C,if_neg E,if_neg G,if_neg I,if_neg J,if_pos M],by rw [M]; decide,by decide⟩
 refine .inl ?_
 unfold dO
 rw [if_neg a,if_neg c,if_neg i,if_neg j,if_neg p,if_neg q,if_neg A,if_neg C,if_neg E,if_neg G,if_neg I,if_neg J,if_neg M]
end Go.Hb.qQ
end
section
set_option maxRecDepth 20000
set_option maxHeartbeats 1000000
namespace Go.Hb.mQ
open Go.Hb.cG
open Go.Proofs
open Go.Hb.fZ Go.Hb.fN
theorem B6 {α:Type} {l:List α} {i:Nat} {d:α} (h:i < l.length):l.getD i d∈l:=by
 rw [List.getD_eq_getElem?_getD,List.getElem?_eq_getElem h]; exact List.getElem_mem h
def eY (n:Nat) (ls:List (List UInt8)):List (Nat×List UInt8):=(ls.zipIdx n).map fun q=>(q.2,q.1)
theorem D0 (n:Nat) (l:List UInt8) (ls:List (List UInt8)):eY n (l::ls)=(n,l)::eY (n+1) ls:=by simp [eY,List.zipIdx_cons]
theorem D1 (n:Nat):eY n []= []:=rfl
theorem qc (n:Nat) (ls:List (List UInt8)):(eY n ls).map Prod.snd=ls:=by
 unfold eY; rw [List.map_map]; exact List.zipIdx_map_fst n ls
theorem uI (n:Nat) (ls:List (List UInt8)):(eY n ls).length=ls.length:=by simp [eY]
def nw (x:Nat×List UInt8):Array Value:= #[.int .i64 x.1,str x.2]
theorem qa {ls:List (List UInt8)} {n:Nat} {pre:List (Nat×List UInt8)} {x:Nat×List UInt8} {rest:List (Nat×List UInt8)} (h:eY n ls=pre++x::rest):pre.length < ls.length∧x.1=n+pre.length∧ls=pre.map Prod.snd++x.2::rest.map Prod.snd:=by
 have h1:=congrArg List.length h
 rw [uI,List.length_append,List.length_cons] at h1
 have h2:=congrArg (List.map Prod.snd) h
 rw [qc,List.map_append,List.map_cons] at h2
 refine ⟨by omega,?_,h2⟩
 have h3:=congrArg (fun l=>l[pre.length]?) h
 simp only [eY,List.getElem?_map,List.getElem?_zipIdx,List.getElem?_append_right (Nat.le_refl _),Nat.sub_self,List.getElem?_cons_zero] at h3
 cases h4:ls[pre.length]? with
 | none=>rw [h4] at h3; cases h3
 | some q=>rw [h4] at h3; cases h3; rfl
theorem sJ (s:List UInt8) (w:World):
 aK Tryz.prog 56 (List.toArray [str s]) w (fun v w'=> ∃ b,v= .func (.func 88) #[] #[aU b]∧w.heap.size≤b∧w'.heap[b]? =some (.cells [str s].toArray 9 (0,0))∧Wk w w'):=by
 refine enter Tryz.func56 rfl Tryz.ntmps56 rfl ?_
 refine aa (fun _ a=>(e (xQ rfl rfl fun i w1 q j hB1=>ae (((a _ _ (aa (fun _ c=> ?_))))))))
 exact p DH (ae (((c _ _ (rt (f1 rfl rfl (⟨i,rfl,by omega,hB1,j.md⟩)))))))
theorem AH (s:List UInt8) (b:Nat) (hs:s.length≤65536) (l:Nat) (a:List (Nat×List UInt8)→World→Prop) (w:World) (h0:a [] w) (ap:∀ pre W,a pre W→W.heap[b]? =some (.cells [str s].toArray 9 (0,0))) (bF:∀ pre W1 A,a pre W1→Wk W1 A→a pre A) (hy:∀ pre x rest W1,(eY 1 (aR s))=pre++x::rest→a pre W1→YieldAt Fence.wide 0 Tryz.prog l (nw x) W1 fun e W'=>e= .returned (.bool true)∧a (pre++ [x]) W'):
 aK Tryz.prog 88 (List.toArray [.func (.yield l) #[] #[],aU b]) w (fun v w'=>a (eY 1 (aR s)) w'):=by
 have hb0:=ap _ _ h0
 refine enter Tryz.func88 rfl Tryz.ntmps88 rfl ?_
 refine sq (fun _ I=>aa (fun _ M=>(p (ld bY rfl ((aM hb0).trans rfl)) (p (bR u9 rfl rfl) (p (gt rfl rfl) (ag ((M _ _ ?_))))))))
 refine cd rfl (fun h=>absurd h (by omega)) (fun hc10=> ?_)
 refine az (tn (I _ _ (aa (fun _ O=>(p (ld bY rfl ((aM hb0).trans rfl)) (e (cl yY (F6 s jx _ (by omega) (by decide)) rfl fun di w12 aj=> ?_)))))))
 obtain ⟨rfl,hE12⟩:=aj
 refine ae (((O _ _ (aa (fun _ V=>(ae (((V _ _ ?_)))))))))
 refine au (lp (fun C j wI=> ∃ (r:List UInt8) (pre:List (Nat×List UInt8)),(r.length≤s.length)∧((eY 1 (aR s))=pre++eY (pre.length+1) (bS [] r))∧(a pre wI)∧(pre.length≤s.length)∧(j 0= .func (.yield l) #[] #[])∧(j 3=str r)∧(j 4=U (pre.length+1))∧(r.length=C)) _ ⟨fy s,[],(mJ s),rfl,(bF _ _ _ h0 hE12),(Nat.zero_le _),rfl,rfl,(iv (by first | rfl | (rw [List.length_append]; rfl))),rfl⟩ ?_)
 rintro C j wI ⟨r,pre,ax,G,E,hpl,ar,av,aw,rfl⟩
 refine fx 0 ar (fx 3 av (fx 4 aw (sq (fun _ Y=>aa (fun _ Z=>(ab (str r) (p (mo rfl rfl) (ag ((Z _ _ ?_))))))))))
 refine cd rfl (fun i=> ?_) (fun i=> ?_)
 have q:(eY 1 (aR s))=pre++(pre.length+1,dU (gz 10 r))::eY (pre.length+2) (bS [] (g9 10 r)):=by rw [G,Dt i,D0]
 have hrl:=z5 (c:=10) i
 have hal:=z0 10 r
 refine az (tn (Y _ _ (sq (fun _ ac=>au (aa (fun _ ad=>(ab (str r) (e (cl yZ (z6 r 10 _ (by omega)) rfl fun ay w19 al=> ?_)))))))))
 obtain ⟨rfl,ai⟩:=al
 refine p mv (p (xt rfl rfl) (p (xt rfl rfl) (p (xt rfl rfl) (p ak (p ak (p ak (nl ?_)))))))
 refine tn (ad _ _ (aa (fun _ ah=>(p mv (ae (((ah _ _ (sq (fun _ J=> ?_))))))))))
 refine E3 ?_
 refine py rfl (ao (.func (.yield l) #[] #[]) rfl) ?_
 refine py rfl (ao (U (pre.length+1)) rfl) ?_
 refine py rfl mv ?_
 refine ey rfl (cl y0 (F8 (gz 10 r) _ (by omega)) rfl fun aA aB am=> ?_)
 obtain ⟨rfl,hE27⟩:=am
 have hJ27:=bF _ _ _ E (Md.trans ai hE27)
 refine GG rfl rfl (hy pre (pre.length+1,dU (gz 10 r)) _ _ q hJ27) (fun w28 an=> ?_)
 refine py rfl (no rfl) ?_
 refine DU ?_
 refine tn (J _ _ (cf (rfl) (az (bn (tn (ac _ _ (rg rfl (ab (U (pre.length+1)) (p (a8 ((pre.length+2:Nat):Int) rfl rfl (aH (by omega) (by omega))) ?_)))))))))
 exact ae (((⟨_,by omega,g9 10 r,pre++ [(pre.length+1,dU (gz 10 r))],(by omega),((by rw [q,List.append_assoc,List.length_append]; rfl)),an,((by have h1:=qa q; have h2:=iS s; rw [List.length_append,List.length_singleton]; omega)),rfl,rfl,(iv (by first | rfl | (rw [List.length_append]; rfl))),rfl⟩)))
 refine ext (te _ (te _ (be (f0 rfl ?_))))
 show a (eY 1 (aR s)) wI
 have aq:r= []:=Decidable.of_not_not i
 rw [G,aq,nQ,D1,List.append_nil]
 exact E
theorem sI (s:List UInt8) (b:Nat) (hs:s.length≤65536):qS Tryz.prog 88 #[.pointer (some ⟨b,0,none⟩)] nw (eY 1 (aR s)) (fun W=>W.heap[b]? =some (.cells [str s].toArray 9 (0,0))):=
 fun l a W h0 c bF hy=>Calls.mono (AH s b hs l a W h0 c bF hy) fun e w' ⟨v,he,i⟩=>⟨⟨v,he⟩,i⟩
theorem vC (s:List UInt8) (w:World) (hs:s.length≤1048576):
 aK Tryz.prog 30 (List.toArray [str s]) w (fun v w'=>(∃ a,v= .tuple #[a,.int .i64 (if 65536 < s.length then 10 else 0)]∧(if 65536 < s.length then a= .slice none 0 0 else World.ownsRow w' w.heap.size 9 1 (a) ((aR s)).length (((aR s)).map str)))∧Wk w w'):=by
 refine sP [] Tryz.func30 rfl Tryz.ntmps30 rfl ?_
 refine dR ?_
 refine ez ?_
 refine rg rfl (p ak (p ak (nl (dX ?_))))
 refine dR ?_
 refine dR ?_
 refine ez ?_
 refine rg rfl (p (ao (str s) rfl) (p (bR u9 rfl rfl) (p (gt rfl rfl) (nl (dX ?_)))))
 refine ez ?_
 refine cd rfl (fun an=> ?_) (fun an=> ?_)
 refine sq (fun av al=>rg rfl (p ak (p ak (nl (tn (al _ _ (rt (qq ?_))))))))
 refine sS rfl rfl rfl ?_
 have hl:65536 < s.length:=by omega
 exact ⟨⟨.slice none 0 0,by show Value.tuple #[.slice none 0 0,.int .i64 10]=_; rw [if_pos hl],by rw [if_pos hl]⟩,Md.refl _ _⟩
 refine az (dX ?_)
 refine dR ?_
 refine ez ?_
 refine rg rfl (e (fP GL fun ab w4 ay am ad=>nl (dX ?_)))
 refine dR ?_
 refine dR ?_
 refine ez ?_
 refine rg rfl (p (ao (str s) rfl) (e (cl rW (sJ s _) rfl fun v11 w11 hR11=> ?_)))
 obtain ⟨U,rfl,hb11,ac,ae⟩:=hR11
 have E:Wk w w11:=Md.trans am.md ae
 have hb4x:=ae.au ad
 have hb11l:=(Array.getElem?_eq_some_iff.1 ac).1
 have aB:ab < w4.heap.size:=(Array.getElem?_eq_some_iff.1 ad).1
 have hl:s.length≤65536:=by omega
 refine nl (dX ?_)
 apply vd (nw) ((eY 1 (aR s))) (fun W=>W.heap[U]? =some (.cells [str s].toArray 9 (0,0))) (fun pre q=> ∃ v,q.heap[ab]? =some (.cells [v].toArray 48 (0,0))∧World.ownsRow q w11.heap.size 9 1 v pre.length ((pre.map Prod.snd).map str)∧q.heap[U]? =some (.cells [str s].toArray 9 (0,0))∧w11.heap.size≤q.heap.size∧Wk w q) rfl r5 (fun _=>rfl) (sI s U hl) (⟨.slice none 0 0,hb4x,World.ownsRow_nil _ _ _ _,ac,Nat.le_refl _,E⟩) (fun _ _ ⟨_,_,_,h,_⟩=>h) (fun pre A C F ⟨v,h1,h2,h3,h5,h4⟩ hm M=>⟨v,oh h1 hm M,vE h2 hm M,oh h3 hm M,Nat.le_trans h5 hm.size,vF h4 hm E.size M⟩)
 intro l x q K G
 exact rg rfl (p (bA (str x.2) rfl) (nl (tn (G))))
 intro l pre x rest q aq Y
 obtain ⟨v,O,j,Z,hsz,V⟩:=Y
 obtain ⟨hpl,aC,aD⟩:=qa aq
 have hll:=iS s
 have hsR:=(Array.getElem?_eq_some_iff.1 Z).1
 refine au (rg rfl (p (ld kj rfl ((aM O).trans rfl)) (p mv (e (gh fc rfl rfl fun aw w16 hb16 i ag=> ?_)))))
 have ah:Wk w w16:=Md.trans V i.md
 have hb16:=i.md.au O
 refine e (ap fc (aE j i.md) rfl (Nat.le_trans hsz i.md.size) rfl (aj.dZ ag) (rfl) (rfl) (by omega) (by omega) fun ar w17 aa I aF aA=> ?_)
 have hE17:=Wk.own ah (aE j i.md) I E.size
 have hbt17:=I.au (i.md.au Z) (fun h=>by have :=cM (aE j i.md) h; omega)
 have hb17:=I.au hb16 (fun h=>cy (aE j i.md) hb16 (by decide) h)
 refine e (cV Ad rfl rfl (dx aa) hb17 (by simp) fun w6 J hB6=> ?_)
 have ai:Wk w w6:=Md.trans' hE17 J (fun k hk h=>by omega)
 exact nl (bn (⟨(fi.wk i.md).trans ((fi.md I (mq (aE j i.md))).trans (fi.md J (fun k hk=>⟨_,_,_,hk ▸ hb17⟩))),ar,hB6,bu (by rw [List.map_append,List.map_append,List.length_append]; exact aa) J (fun k hk h=>cy aa hb17 (by decide) (h ▸ hk)),J.au hbt17 (fun h=>by omega),Nat.le_trans hsz (Nat.le_trans i.md.size (Nat.le_trans I.size J.size)),ai⟩))
 intro D q ax Y G
 obtain ⟨v,O,j,Z,hsz,V⟩:=Y
 have hlt:=(Array.getElem?_eq_some_iff.1 G).1
 refine dX ?_
 refine dR ?_
 refine ez ?_
 refine rg rfl (p (ld kj rfl ((aM O).trans rfl)) (p ak (p ak (nl (dX ?_)))))
 refine qu ?_
 refine sT rfl rfl rfl G ?_
 have hl:¬65536 < s.length:=by omega
 rw [qc,uI] at j
 exact ⟨⟨v,by show Value.tuple #[v,.int .i64 0]=_; rw [if_neg hl],by rw [if_neg hl]; exact fV (bu j (ly _ _ _) (fun k hk h=>by obtain ⟨c,e,z,h1⟩:=mq j k hk; rw [h,G] at h1; cases h1)) E.size⟩,Md.trans' V (ly _ _ _) (fun k hk h=>by have :=E.size; omega)⟩
end Go.Hb.mQ
end
