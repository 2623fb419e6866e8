/-
  Walks and plain laws that the law rests on, laid together. No conditions but those that each theorem names.
-/
import Derived.Test.YtchkamdekbbgeaaGreatDoorMnAnalyseAccepts6
set_option linter.unusedVariables false
set_option maxRecDepth 20000
set_option maxHeartbeats 1000000
open Array renaming getElem?_eq_some_iff→dD
open Bool renaming and_eq_true→il,and_false→uS,and_true→DY,noConfusion→dM
open Classical renaming byContradiction→tj,not_not→jG
open Go renaming Addr→bF,Value→ag,World→ak
open Go.Calls renaming mono→mm
open Go.Instr renaming checkKey→pw,findAsking→tp,findKey→tq,findNow→tt
open Go.Op renaming equalIn→q7
open Go.Proofs.Tryz renaming prog→az,underlying49→Ec
open Go.Result renaming andThen_ok→oE
open Go.Sem renaming run_bind→oF,run_pure→q8
open Go.Value renaming bool→bR,int→gq,slice→bQ
open Go.World renaming ownsRow→bo,ownsRow_nil→dE
open Int renaming toNat_natCast→kg
open List renaming append_assoc→eX,append_nil→ez,drop_left→MC,filterMap_append→MF,filter_append→q9,filter_cons→pD,flatMap_append→nM,flatMap_singleton→qf,getD_eq_getElem?_getD→cH,getElem?_eq_getElem→bY,getElem?_eq_some_iff→ff,getElem?_map→fJ,getElem?_zip_eq_some→j7,length_append→bG,length_drop→fP,length_filter_le→qg,length_map→fC,length_range→u6,length_singleton→fg,length_take→dJ,map_append→gS,mem_append→jT,mem_cons→fi,mem_filter→qh,mem_filterMap→MV,mem_flatMap→pG,mem_map→je,mem_of_getElem?→gB,mem_range→qi,mem_singleton→iS,pairwise_flatMap→MZ,range→gT,range_succ→xA,take_append_drop→Aj,take_left→M3,take_of_length_le→eY,toArray→a7
open Nat renaming le_refl→cE,le_trans→e7,lt_or_ge→fG,lt_succ_iff_lt_or_eq→pI,mul_le_mul_right→qo,not_lt_zero→M9,zero_le→gY
open Option renaming bind_assoc→Nc,bind_eq_some_iff→sB,bind_some→rj,isSome_iff_exists→nP,map_eq_some_iff→mZ
open Go.Proofs.Tryz
open Go.Proofs Go.Hb.dP Go.Hb.eH Go.Hb.fj Go.Hb.iF Go.Hb.fZ Go.Hb.gZ Go.Hb.iU Go.Hb.jt Go.Hb.jH Go.Hb.jJ Go.Hb.kQ

namespace Go.Hb
def WA:Go.Shelf.Ren:=⟨fun n=>if n=125 then 66 else if n=128 then 123 else if n=129 then 124 else if n=189 then 143 else if n=215 then 177 else if n=216 then 249 else if n=257 then 208 else if n=294 then 243 else if n=295 then 244 else if n=296 then 245 else if n=297 then 246 else if n=298 then 247 else if n=299 then 248 else if n=300 then 250 else if n=301 then 251 else if n=328 then 269 else if n=329 then 184 else if n=330 then 185 else if n=331 then 270 else if n=332 then 271 else if n=343 then 293 else 0,fun n=>if n=0 then 0 else if n=3 then 3 else if n=4 then 4 else if n=5 then 5 else if n=9 then 9 else if n=28 then 85 else if n=46 then 145 else if n=51 then 240 else if n=53 then 242 else if n=131 then 237 else if n=182 then 232 else if n=183 then 233 else if n=218 then 287 else if n=222 then 291 else if n=228 then 335 else if n=229 then 219 else 0,fun n=>n⟩
theorem IG:Go.Proofs.Lays.n189 az WA where
 mixed:=aj
 f125:=aj
 f128:=aj
 f129:=aj
 f189:=aj
 f215:=aj
 f216:=aj
 f257:=aj
 f294:=aj
 f295:=aj
 f296:=aj
 f297:=aj
 f298:=aj
 f299:=aj
 f300:=aj
 f301:=aj
 f328:=aj
 f329:=aj
 f330:=aj
 f331:=aj
 f332:=aj
 f343:=aj
 t0:=aj
 a0:=fun _=>aj
 z0:=fun _=>aj
 v0:=fun _=>aj
 t3:=aj
 a3:=fun _=>aj
 z3:=fun _=>aj
 v3:=fun _=>aj
 t4:=aj
 a4:=fun _=>aj
 z4:=fun _=>aj
 v4:=fun _=>aj
 t5:=aj
 a5:=fun _=>aj
 z5:=fun _=>aj
 v5:=fun _=>aj
 t9:=aj
 a9:=fun _=>aj
 z9:=fun _=>aj
 v9:=fun _=>aj
 t28:=aj
 a28:=fun _=>aj
 z28:=fun _=>aj
 v28:=fun _=>aj
 t46:=aj
 a46:=fun _=>aj
 z46:=fun _=>aj
 v46:=fun _=>aj
 t51:=aj
 a51:=fun _=>aj
 z51:=fun _=>aj
 v51:=fun _=>aj
 t53:=aj
 a53:=fun _=>aj
 z53:=fun _=>aj
 v53:=fun _=>aj
 t131:=aj
 a131:=fun _=>aj
 z131:=fun _=>aj
 v131:=fun _=>aj
 t182:=aj
 a182:=fun _=>aj
 z182:=fun _=>aj
 v182:=fun _=>aj
 t183:=aj
 a183:=fun _=>aj
 z183:=fun _=>aj
 v183:=fun _=>aj
 t218:=aj
 a218:=fun _=>aj
 z218:=fun _=>aj
 v218:=fun _=>aj
 t222:=aj
 a222:=fun _=>aj
 z222:=fun _=>aj
 v222:=fun _=>aj
 t228:=aj
 a228:=fun _=>aj
 z228:=fun _=>aj
 v228:=fun _=>aj
 t229:=aj
 a229:=fun _=>aj
 z229:=fun _=>aj
 v229:=fun _=>aj
theorem XH (B n:Nat) (v:ag) (A:List Int) (w:ak) (G:bo w B 3 1 v n (A.map<|gq .i64)) (Y:A.length≤1048576):
 ba az 143 [v].toArray w (fun V w'=>V= .tuple #[]∧bo w' B 3 1 v n ((A.mergeSort fun x y=>decide (x≤y)).map<|gq .i64)∧Md (fun k=>v.ownBlock=some k) w w'):=by
 have hn:A.length=n:=by have :=G.1; simpa using this
 have hlen:(A.mergeSort fun x y=>decide (x≤y)).length=A.length:=List.length_mergeSort _;rcases G.2 with ⟨rfl,Z⟩ | ⟨g,cap,cur,rfl,I,E,h1,h2,h3,h4⟩
 · have O:A= []:=List.eq_nil_of_length_eq_zero ab;subst O;refine mm (Any.slices_Sort_int_none IG none 0 w) ?_;rintro e w' ⟨rfl,rfl⟩;exact ⟨_,aa,aa,by rw [List.mergeSort_nil]; exact G,Md.refl _ _⟩
 · subst hn;rw [Nat.mul_one] at h4;refine mm (calls_of_every_depth fun D=>AnyS.slices_Sort_int_alone IG D g 0 cap A w (holds_of_blockI E h4) (dD.1 E).1 ab) ?_;rintro e w' ⟨rfl,m,os,rfl⟩;have C:=grownBy_sortedI (w:=w) (g:=g) (n:=m) (os:=os) (A.mergeSort fun x y=>decide (x≤y)).toArray;refine ⟨_,aa,aa,ownsRow_sortedI hlen I E h1 h2 h3,⟨C.os,C.output,C.size,fun k hk J=>C.block k hk fun he=>J ?_⟩⟩;simp only [Value.ownBlock]; exact he.symm
end Go.Hb
namespace Go.Hb.ki
theorem IU (l:List Nat):(l.map fun i:Nat=>(i:Int)).map (gq .i64)=l.map bJ:=by rw [List.map_map]; rfl
theorem pj {F:aE} {xs:List bp} (h:ec F xs) (n:Int):(flagsOf xs n).length≤64∧lF (flagsOf xs n):=by
 by_cases hn:0≤n∧n < xs.length
 · obtain ⟨k,rfl⟩:∃ k:Nat,n=(k:Int):=⟨n.toNat,ab⟩
   have A:xs[k]? =some xs[k]:=bY ab;rw [(tQ A).2.1];exact ⟨(h.vG _<|gB A).2.1,h.Q7 _<|gB A⟩
 · rw [(tR hn).2]; exact ⟨gY _,vN⟩
theorem uD {F:aE} {xs:List bp} (h:ec F xs) (n:Int):(bV F n).length≤64∧lF (bV F n):=by
 by_cases hn:0≤n∧n < F.rules.length
 · obtain ⟨k,rfl⟩:∃ k:Nat,n=(k:Int):=⟨n.toNat,ab⟩
   have A:F.rules[k]? =some F.rules[k]:=bY ab;rw [(wO A).2.1];exact ⟨(h.jm A).1,(h.jm A).2.1⟩
 · rw [(wP hn).2]; exact ⟨gY _,vN⟩
theorem Py {F:aE} {k f:Nat} (h:(eb F.bw f).isSome=false):hY F k f= []:=by
 unfold hY;cases h2:eb F.bw f with
 | none=>rfl
 | some c=>rw [h2] at h; cases h
theorem PC {F:aE} {k f:Nat} {c:di} (h:(eb F.bw f).isSome=true) (A:(eb F.bw f).getD tW=c):eb F.bw f=some c:=by
 cases h2:eb F.bw f with
 | none=>rw [h2] at h; cases h
 | some d=>rw [h2] at A; exact congrArg some A
theorem PA {F:aE} {k f:Nat} {c:di} (h:eb F.bw f=some c) (hk:c.kind≠k):hY F k f= []:=by unfold hY; rw [h]; exact if_neg hk
theorem PD {F:aE} {k f:Nat} {c:di} (h:eb F.bw f=some c) (hk:c.kind=k):hY F k f=(gT c.count).map (c.first+ ·):=by unfold hY; rw [h]; exact if_pos hk
theorem Pw {F:aE} (A:qt F) {f:Nat} {c:di} (h:eb F.bw f=some c):c.first+c.count≤F.rules.length:=(A.vD c (G6 h).1).1
theorem RV {fs:List Nat} {f:Nat→List Nat} {i:Nat} (h:i < fs.length):(fs.take<|i+1).flatMap f=(fs.take i).flatMap f++f (fs.getD i 0):=by
 rw [fN fs i 0 h,nM,qf]
theorem Jd {F:aE} (A:qt F) {fs:List Nat} (h:fs.Pairwise (· < ·)) (k:Nat):(fs.flatMap<|hY F k).length=(bh F fs k).length:=by
 obtain ⟨h1,h2⟩:=Jc A (k:=k) h;exact ((List.perm_ext_iff_of_nodup h1<|(Ct F fs k).imp fun h=>by omega).2 h2).length_eq
theorem Vh {F:aE} (A:qt F) {fs:List Nat} (h:fs.Pairwise (· < ·)) (k:Nat):(fs.flatMap<|hY F k).length≤F.rules.length:=by
 rw [Jd A h]; exact ur F fs k
def ny (F:aE) (fs:List Nat) (kind n:Nat):List Nat:=(gT n).filter fun i=>decide ((F.rules.getD i dF).kind=kind∧(F.rules.getD i dF).flag∈fs)
theorem Vg (F:aE) (fs:List Nat) (kd n:Nat):ny F fs kd (n+1)=ny F fs kd n++(if (F.rules.getD n dF).kind=kd∧(F.rules.getD n dF).flag∈fs then [n] else []):=by
 unfold ny;rw [xA,q9];congr 1;rw [pD,List.filter_nil];by_cases h:(F.rules.getD n dF).kind=kd∧(F.rules.getD n dF).flag∈fs
 · rw [decide_eq_true h,if_pos h]; rfl
 · rw [decide_eq_false h,if_neg h]; rfl
theorem Vf (F:aE) (fs:List Nat) (kd n:Nat):(ny F fs kd n).length≤n:=by
 unfold ny; have :=qg (fun i=>decide ((F.rules.getD i dF).kind=kd∧(F.rules.getD i dF).flag∈fs)) (gT n); simpa using this
def ot (r:cJ) (fs:List Nat) (kd i k:Nat):List Nat:=if r.kind=kd∧r.flag∈fs.take k then [i] else []
theorem Jj (r:cJ) (fs:List Nat) (kd i:Nat):ot r fs kd i 0= []:=if_neg fun h=>by simp at h
theorem Ji {r:cJ} {fs:List Nat} {kd i k:Nat} (hk:k < fs.length) (h:fs.getD k 0≠r.flag):ot r fs kd i (k+1)=ot r fs kd i k:=by
 unfold ot;rw [fN fs k 0 hk];have :r.flag∈fs.take k++ [fs.getD k 0]↔r.flag∈fs.take k:=by
  rw [jT,iS]; exact ⟨fun h2=>h2.elim id (fun e=>absurd e.symm h),.inl⟩
 simp only [this]
theorem Vq {r:cJ} {fs:List Nat} {kd i k:Nat} (G:fs.Pairwise (· < ·)) (hk:k < fs.length) (h:fs.getD k 0=r.flag) (I:r.kind=kd):ot r fs kd i (k+1)=ot r fs kd i k++ [i]:=by
 unfold ot;rw [fN fs k 0 hk];have hn:r.flag∉fs.take k:=fun h2=>by
  obtain ⟨j,A⟩:=List.getElem?_of_mem h2;have C:j < k:=by have :=(ff.1 A).1; rw [dJ] at this; omega
  rw [List.getElem?_take_of_lt C] at A;have E:=ff.1 A;have :=List.pairwise_iff_getElem.1 G j k E.1 hk C;rw [cH,bY hk] at h;simp only [Option.getD_some] at h;have h3:=E.2;omega
 rw [if_pos ⟨I,by rw [jT]; exact .inr<|iS.2 h.symm⟩,if_neg (fun h2=>hn h2.2)]; rfl
theorem Jh {F:aE} {r:cJ} {fs:List Nat} {kd i k:Nat} (A:F.rules.getD i dF=r) (h:k=fs.length∨r.kind≠kd):ny F fs kd i++ot r fs kd i k=ny F fs kd (i+1):=by
 rw [Vg,A];congr 1;unfold ot;rcases h with rfl | h
 · rw [List.take_length]
 · rw [if_neg (fun h2=>h h2.1),if_neg (fun h2=>h h2.1)]
def jP (F:aE) (xs:List bp) (e k:Int):Bool:=decide (0≤k∧k < 5) && sV F xs e k.toNat
theorem K3 {w:ak} {B tb:Nat} {U:gE} {F:aE} {xs:List bp} (h:fS w B tb U F xs) {k:Nat} (hk:k < 5):Hb.aV w.heap tb (5 +k*1)=some (bf<|F.sp.getD k 0):=by
 refine (a8 h.cells).trans ?_
 match k,hk with
 | 0,_=>rfl
 | 1,_=>rfl
 | 2,_=>rfl
 | 3,_=>rfl
 | 4,_=>rfl
theorem HT {w:ak} {B tb fb:Nat} {V:eo} {ve:ag} {F:aE} {xs:List bp} (h:ga w B tb fb V ve F xs) {k:Nat} (hk:k < 5):Hb.aV w.heap fb (3 +k*1)=some (bJ<|F.sp.getD k 0):=by
 refine (a8 h.fl.cells).trans ?_
 match k,hk with
 | 0,_=>rfl
 | 1,_=>rfl
 | 2,_=>rfl
 | 3,_=>rfl
 | 4,_=>rfl
theorem HZ {x:Nat} {l:List Nat} (h:0∉l):decide (x∈l)=decide (x≠0∧x∈l):=decide_eq_decide.2 ⟨fun h2=>⟨fun h3=>h (h3 ▸ h2),h2⟩,And.right⟩
theorem ya (B tb:Nat) (U:gE) (F:aE) (xs:List bp) (n:Int) (w:ak) (hT:fS w B tb U F xs) (ai:ec F xs):
 ba az 24 (a7 [bj tb,.int .i64 n]) w (fun v w'=>(∃ a,v= .tuple #[.agg [str (oc xs n),a].toArray,.bool (decide (0≤n∧n < xs.length))]∧bo w' w.heap.size 95 1 a (flagsOf xs n).length ((flagsOf xs n).map bf))∧Wk w w'):=by
 obtain ⟨aX,ce,aS⟩:=Yt hT;have bb:=ai.xl;refine enter func24 aa ntmps24 aa<|bg 2 aa<|e<|al sd fun aZ aA a3 C I=> ?_;have bh:=C.size;have aO:=hT.wk C.md;have aU:=Wk.aV C.md aS;refine au 6 aa<|p mv<|p (lh xc aa aa)<|au 1 aa<|gb (t:=9) aa (fun h=>absurd (h.symm.trans<|aa) dM) fun a5=>bI aa mv<|au 3 aa<|gs (t:=13) aa (fun aR=> ?_) fun aR=> ?_;refine au 13 aa<|p (cV (ps:= []) (L:= [.string ⟨⟨[]⟩⟩,.slice none 0 0]) pf aa<|aa)<|e<|c8 kT aa aa aa aa (I) (by simp) fun aW O G=>aC 5 aa<|eF aa (dU (cs:= [str [],.slice none 0 0]) aa l0 aa fun j Y=>G.bu j) et ?_;have E:=tR (xs:=xs) (n:=n) ab;exact ⟨⟨.slice none 0 0,by rw [E.1,decide_eq_false (show ¬(0≤n∧n < (xs.length:Int)) by omega)]; rfl,by rw [E.2]; exact dE _ _ _ _⟩,C.md.trans' O fun q A h=>by omega⟩;refine bI aa mv<|bI aa mv<|au 2 aa<|bI aa (ld1 aa<|aU)<|aQ 5 aa<|cd aa (fun aP=> ?_) fun aP=> ?_;refine aH 2 aa<|p (cV (ps:= []) (L:= [.string ⟨⟨[]⟩⟩,.slice none 0 0]) pf aa<|aa)<|e<|c8 kT aa aa aa aa (I) (by simp) fun aW O G=>aC 5 aa<|eF aa (dU (cs:= [str [],.slice none 0 0]) aa l0 aa fun j Y=>G.bu j) et ?_;have E:=tR (xs:=xs) (n:=n) ab;exact ⟨⟨.slice none 0 0,by rw [E.1,decide_eq_false (show ¬(0≤n∧n < (xs.length:Int)) by omega)]; rfl,by rw [E.2]; exact dE _ _ _ _⟩,C.md.trans' O fun q A h=>by omega⟩;obtain ⟨k,rfl⟩:∃ k:Nat,n=(k:Int):=⟨n.toNat,ab⟩
 obtain ⟨x,ac⟩:∃ x,xs[k]? =some x:=⟨_,bY ab⟩
 obtain ⟨aY,a0,a,c,a8,aT,am,ay,aw⟩:=Ys aO ac;have a9:=(ai.vG x<|gB ac).2.1;obtain ⟨aF,aG,a1,a2⟩:=tQ ac;refine aH 4 aa<|p mv<|au 2 aa<|p (ld1 aa<|aT)<|p mv<|p (a6 Bf aa aa ab<|aB.ok (am)<|vF ay)<|p (cQ l0 aa (aa)<|fI (f:=qF) (m:=2) (fun _=>rfl) am ay)<|e<|al sd fun ag bm a4 av aN=> ?_;have bk:=av.size;refine e<|c8 kT aa aa aa aa (aN) (by simp) fun ae ap aI=> ?_;have an:Wk aA ae:=av.md.trans' ap fun q A h=>by omega
 have bc:=ap.size;have aj:bO ae.heap ag [str x.1,.slice a x.2.length c]:=aI;refine au 5 aa<|p (ld1 aa<|aj.bu 1)<|e<|aM (tV a x.2.length c (x.2.map bf) ae (aw.wk an).cW.2 (by simp) (fun h=>Tg.uu aw (by simp) h) (tO _) ab) aa ?_;rintro v32 bl ⟨Z,J⟩;obtain ⟨a32,ah,rfl⟩:=cz Z;have bd:=J.size;refine au 1 aa<|e<|st tY aa aa (aa) (Wk.B J aj) (by simp) fun aD V aJ=> ?_;have ao:Wk aA aD:=(an.trans J).trans' V fun q A h=>by omega
 have bi:=V.size;have ax:=da Z V fun q A h=>by have :=(dH Z A).1; omega
 have aK:bO aD.heap ag [str x.1,.slice a32 x.2.length ah]:=aJ;exact au 4 aa<|p (cQ l0 aa (aa) fun j Y=>aK.bu j)<|e<|c8 kT aa aa aa aa (Wk.B ao I) (by simp) fun bn aq aL=>aC 4 aa<|eF aa (dU (cs:= [str x.1,.slice a32 x.2.length ah]) aa l0 aa fun j Y=>aL.bu j) et<|⟨⟨_,by rw [aF,decide_eq_true (show 0≤(k:Int)∧(k:Int) < (xs.length:Int) by omega)]; rfl,by rw [aG]; exact da (eR ax ab) aq fun q A h=>by have :=(dH ax A).1; omega⟩,(C.md.trans ao).trans' aq fun q A h=>by omega⟩
theorem y8 (B tb:Nat) (U:gE) (F:aE) (xs:List bp) (n:Int) (w:ak) (hT:fS w B tb U F xs) (am:ec F xs):
 ba az 87 (a7 [bj tb,.int .i64 n]) w (fun v w'=>(∃ a,v= .tuple #[.agg (eS (s7 F n,a)).toArray,.bool (decide (0≤n∧n < F.rules.length))]∧bo w' w.heap.size 95 1 a (bV F n).length ((bV F n).map bf))∧Wk w w'):=by
 obtain ⟨a4,ce,aZ⟩:=Yu hT;have bi:=am.len;refine enter func87 aa ntmps87 aa<|bg 2 aa<|e<|al qZ fun aK G bb C J=> ?_;have bm:=C.size;have aA:=hT.wk C.md;have a2:=Wk.aV C.md aZ;have aS:bO G.heap aK (eS (dF,.slice none 0 0)):=J;refine au 6 aa<|p mv<|p (lh xc aa aa)<|au 1 aa<|gb (t:=9) aa (fun h=>absurd (h.symm.trans<|aa) dM) fun bd=>bI aa mv<|au 3 aa<|gs (t:=13) aa (fun aY=> ?_) fun aY=> ?_;refine au 14 aa<|p (cV (ps:= []) (L:= [.int .i64 0,.int .u16 0,.bool false,.string ⟨⟨[]⟩⟩,.string ⟨⟨[]⟩⟩,.string ⟨⟨[]⟩⟩,.slice none 0 0]) Dn aa<|aa)<|e<|c8 oW aa aa aa aa (J) (by simp) fun a3 V I=>aC 5 aa<|eF aa (dU (cs:=eS (dF,.slice none 0 0)) aa lI aa fun j Z=>I.bu j) et ?_;have E:=wP (F:=F) (n:=n) ab;exact ⟨⟨.slice none 0 0,by rw [E.1,decide_eq_false (show ¬(0≤n∧n < (F.rules.length:Int)) by omega)]; rfl,by rw [E.2]; exact dE _ _ _ _⟩,C.md.trans' V fun q A h=>by omega⟩;refine bI aa mv<|bI aa mv<|au 3 aa<|bI aa (ld1 aa<|a2)<|aQ 5 aa<|cd aa (fun aX=> ?_) fun aX=> ?_;refine aH 2 aa<|p (cV (ps:= []) (L:= [.int .i64 0,.int .u16 0,.bool false,.string ⟨⟨[]⟩⟩,.string ⟨⟨[]⟩⟩,.string ⟨⟨[]⟩⟩,.slice none 0 0]) Dn aa<|aa)<|e<|c8 oW aa aa aa aa (J) (by simp) fun a3 V I=>aC 5 aa<|eF aa (dU (cs:=eS (dF,.slice none 0 0)) aa lI aa fun j Z=>I.bu j) et ?_;have E:=wP (F:=F) (n:=n) ab;exact ⟨⟨.slice none 0 0,by rw [E.1,decide_eq_false (show ¬(0≤n∧n < (F.rules.length:Int)) by omega)]; rfl,by rw [E.2]; exact dE _ _ _ _⟩,C.md.trans' V fun q A h=>by omega⟩;obtain ⟨k,rfl⟩:∃ k:Nat,n=(k:Int):=⟨n.toNat,ab⟩
 obtain ⟨r,ae⟩:∃ r,F.rules[k]? =some r:=⟨_,bY ab⟩
 obtain ⟨aJ,aL,a,c,a0,ao,aG,aD⟩:=N8 aA.ax ae;have a1:Hb.aV G.heap tb 14=some (.slice aJ F.rules.length aL):=by rw [← a0]; exact (a8 aA.cells).trans rfl
 have bh:=(am.jm ae).1;obtain ⟨aN,aO,a5,a9⟩:=wO ae;refine aH 4 aa<|p mv<|au 3 aa<|p (ld1 aa<|a1)<|p mv<|p (a6 nk aa aa ab<|aB.ok (ao)<|oA aG)<|p (cQ lI aa (aa)<|fI (f:=eS) (m:=7) (fun _=>rfl) ao aG)<|e<|al qZ fun ai bt bc ay aW=> ?_;have bq:=ay.size;refine e<|c8 oW aa aa aa aa (aW) (by simp) fun ag av aP=> ?_;have ap:Wk G ag:=ay.md.trans' av fun q A h=>by omega
 have bk:=av.size;have an:bO ag.heap ai (eS (r,.slice a r.next.length c)):=aP;refine au 5 aa<|p (ld1 aa<|an.bu 6)<|e<|aM (tV a r.next.length c (r.next.map bf) ag (aD.wk ap).cW.2 (by simp) (fun h=>Tg.uu aD (by simp) h) (tO _) ab) aa ?_;rintro br bs ⟨ac,O⟩;obtain ⟨ah,aj,rfl⟩:=cz ac;have bl:=O.size;refine au 1 aa<|e<|st tY aa aa (aa) (Wk.B O an) (by show 6 < 7; omega) fun aI Y aR=> ?_;have aq:Wk G aI:=(ap.trans O).trans' Y fun q A h=>by omega
 have bn:=Y.size;have aF:=da ac Y fun q A h=>by have :=(dH ac A).1; omega
 have aT:bO aI.heap ai (eS (r,.slice ah r.next.length aj)):=aR;exact au 4 aa<|p (cQ lI aa (aa) fun j Z=>aT.bu j)<|e<|c8 oW aa aa aa aa (Wk.B aq aS) (by show 7≤7; omega) fun bv aw aU=>aC 4 aa<|eF aa (dU (cs:=eS (r,.slice ah r.next.length aj)) aa lI aa fun j Z=>aU.bu j) et<|⟨⟨_,by rw [aN,decide_eq_true (show 0≤(k:Int)∧(k:Int) < (F.rules.length:Int) by omega)]; rfl,by rw [aO]; exact da (eR aF ab) aw fun q A h=>by have :=(dH aF A).1; omega⟩,(C.md.trans aq).trans' aw fun q A h=>by omega⟩
theorem TK (a:Option bF) (c:Nat) (l:List Nat) (x:Nat) (w:ak) (C:aB w.heap a (l.map bf)) (ac:l.length≤1048576):
 ba az 142 (a7 [.slice a l.length c,bf x]) w (fun v w'=>(∃ k:Int,v= .int .i64 k∧(0≤k↔x∈l)∧ -1≤k∧k≤1048576)∧Wk w w'):=by
 refine enter func142 aa ntmps142 aa<|bq 14 aa<|lp (fun A O J=> ∃ (i:Nat),(i≤l.length)∧(∀ j,j < i→l.getD j 0≠x)∧(J=w)∧(Sl O [(0,.slice a l.length c),(1,bf x),(7,ay (l.length)),(8,ay i)])∧(l.length - i=A)) _ ⟨0,ab,(fun j G=>by omega),aa,aa,aa⟩ ?_;rintro A O J ⟨i,hi,I,V,Z,rfl⟩;refine bA Z ?_;subst V;refine bq 6 aa<|cd aa (fun Y=> ?_) fun Y=> ?_;refine aH 12 aa<|ep (bf x)<|au 2 aa<|p (a6 GL aa aa ab<|aB.ok (C)<|bS ab)<|p (ld1 aa<|aB.gV C (show (l.map bf)[i]? =some (bf<|l.getD i 0) by rw [fJ,cH,bY (by omega :i < l.length)]; rfl)) ?_;refine aQ 3 aa<|cd aa (fun E=> ?_) fun E=> ?_;exact aJ 9 aa<|tr<|bc 2 aa<|aR aa<|⟨⟨(i:Nat),aa,⟨fun _=>by obtain rfl :x=l.getD i 0:=ab; exact dR ab,fun _=>by omega⟩,ab,ab⟩,Md.refl _ _⟩
 exact aJ 7 aa<|tn<|⟨_,ab,i+1,ab,(fun j G=>by rcases fG j i with h | h <;> first | exact I j h | (rw [show j=i by omega]; exact fun h2=>E<|by rw [h2])),aa,aa,aa⟩
 exact aJ 2 aa<|bK<|bc 8 aa<|aR aa<|⟨⟨-1,aa,⟨fun h=>absurd h ab,fun h=>by obtain ⟨j,G,e⟩:=mM 0 h; exact absurd e<|I j ab⟩,ab,ab⟩,Md.refl _ _⟩
theorem PZ (a:Option bF) (c:Nat) (l:List Nat) (x:Nat) (w:ak) (A:aB w.heap a (l.map bf)) (E:l.length≤1048576):
 ba az 85 (a7 [.slice a l.length c,bf x]) w (fun v w'=>v= .bool (decide (x∈l))∧Wk w w'):=by
 refine enter func85 aa ntmps85 aa<|bg 8 aa<|ep (bf x)<|e<|aM (TK a c l x w A E) aa ?_;rintro J O ⟨⟨G,rfl,C,I⟩,hE7⟩;exact aC 5 aa<|aR aa<|⟨by show bR (decide (G≥0))=_; exact congrArg bR (decide_eq_decide.2 C),hE7⟩
theorem HY (a:Option bF) (c:Nat) (l:List Nat) (x:Nat) (w:ak) (A:aB w.heap a (l.map bf)) (E:l.length≤1048576):
 ba az 43 (a7 [.slice a l.length c,bf x]) w (fun v w'=>v= .bool (decide (x∈l))∧Wk w w'):=by
 refine enter func43 aa ntmps43 aa<|bg 8 aa<|ep (bf x)<|e<|aM (PZ a c l x w A E) aa ?_;rintro G I ⟨rfl,C⟩;exact aC 4 aa<|aR aa<|⟨aa,C⟩
theorem Cu (B tb:Nat) (U:gE) (F:aE) (xs:List bp) (fs:List Nat) (a:Option bF) (c kd:Nat) (w:ak) (hT:fS w B tb U F xs) (J:ec F xs) (av:aB w.heap a (fs.map bf)) (bs:fs.length≤64) (an:fs.Pairwise (· < ·)):
 ba az 86 (a7 [bj tb,.slice a fs.length c,ay kd]) w (fun v w'=>bo w' w.heap.size 3 1 v (bh F fs kd).length ((bh F fs kd).map bJ)∧Wk w w'):=by
 have bx:=J.len;refine enter func86 aa ntmps86 aa<|bq 19 aa<|lp (fun I aS G=> ∃ (i:Nat) (v:ag),(i≤fs.length)∧(bo G w.heap.size 3 1 v ((fs.take i).flatMap<|hY F kd).length<|((fs.take i).flatMap<|hY F kd).map bJ)∧(((fs.take i).flatMap<|hY F kd).length≤i*70000)∧(Wk w G)∧(Sl aS [(0,bj tb),(2,ay kd),(7,v),(13,.slice a fs.length c),(14,ay (fs.length)),(15,ay i)])∧(fs.length - i=I)) _ ⟨0,.slice none 0 0,ab,(dE _ _ _ _),(gY _),(Md.refl _ _),aa,aa⟩ ?_;rintro I aS G ⟨i,v,hi,Z,aN,A,a9,rfl⟩;refine bA a9<|bq 6 aa<|cd aa (fun a1=> ?_) fun a1=> ?_;refine aH 6 aa<|p (a6 bX aa aa ab<|aB.ok (av.wk A)<|bS ab)<|p (ld1 aa<|aB.gV (av.wk A) (show (fs.map bf)[i]? =some (bf<|fs.getD i 0) by rw [fJ,cH,bY (by omega :i < fs.length)]; rfl)) ?_;refine au 8 aa<|p (ld1 aa<|(a8 (hT.wk A).cells).trans aa)<|au 1 aa<|e<|aM (Bk B U.fb U.mc F U.V (fs.getD i 0) G (hT.wk A).fl ab) aa fun v25 bM aG=> ?_;obtain ⟨cl,aK⟩:∃ cl,(eb F.bw<|fs.getD i 0).getD tW=cl:=⟨_,rfl⟩
 rw [aK] at aG;have E:=RV (f:=hY F kd) (show i < fs.length by omega);obtain ⟨rfl,ax⟩:=aG;have bB:=ax.size;refine p mv<|au 2 aa<|e<|gK uN fun ah bL bi aF aV=> ?_;have bz:=aF.size;refine e<|gA sM aa aa aa aa aV (by simp) fun aP aD aX=> ?_;have Y:Wk G aP:=(ax.trans aF.md).trans' aD fun q bv h=>by omega
 have bH:=aD.size;have aj:aP.heap[ah]? =some (.cells (oU cl).toArray 192 (0,0)):=aX;have aq:=aU Z Y;refine au 9 aa<|gb (t:=30) aa (fun ao=> ?_) fun ao=> ?_;have O:hY F kd (fs.getD i 0)= []:=Py<|by simpa using ao
 exact aC 16 aa<|tn<|⟨_,ab,i+1,v,ab,(by rw [E,O,ez]; exact aq),(by rewrite [E,O,ez]; exact e7 aN<|qo _<|Nat.le_succ i),(A.trans Y),aa,aa⟩
 have am:=PC (k:=kd) (by simpa using ao) aK;refine au 1 aa<|bI aa (ld1 aa<|(a8 aj).trans aa)<|aQ 5 aa<|cd aa (fun aI=> ?_) fun aI=> ?_;have O:hY F kd (fs.getD i 0)= []:=PA am fun h=>aI<|by rw [h]
 exact aJ 8 aa<|tn<|⟨_,ab,i+1,v,ab,(by rw [E,O,ez]; exact aq),(by rewrite [E,O,ez]; exact e7 aN<|qo _<|Nat.le_succ i),(A.trans Y),aa,aa⟩
 have a3:cl.kind=kd:=ab;have aL:=PD am a3;have bn:=Pw J.cls am;refine aH 5 aa<|p (ld1 aa<|(a8 aj).trans aa)<|aQ 4 aa<|lp (fun I aT ae=> ∃ (j:Nat) (v2:ag),(j≤cl.count)∧(bo ae w.heap.size 3 1 v2 ((fs.take i).flatMap (hY F kd)++(gT j).map (cl.first+ ·)).length<|((fs.take i).flatMap (hY F kd)++(gT j).map (cl.first+ ·)).map bJ)∧(ae.heap[ah]? =some (.cells (oU cl).toArray 192 (0,0)))∧(Wk w ae)∧(Sl aT [(0,bj tb),(2,ay kd),(7,v2),(10,bj ah),(13,.slice a fs.length c),(14,ay (fs.length)),(15,ay i),(37,ay (cl.count)),(38,ay j)])∧(cl.count - j=I)) _ ⟨0,v,ab,(by rw [List.range_zero,List.map_nil,ez]; exact aq),aj,(A.trans Y),aa,aa⟩ ?_;rintro I aT ae ⟨j,v2,bt,ac,al,ai,bb,rfl⟩;refine bA bb<|bq 6 aa<|cd aa (fun a2=> ?_) fun a2=> ?_;refine aH 11 aa<|ep (v2)<|au 1 aa<|p (ld1 aa<|(a8 al).trans aa)<|au 1 aa<|p (bC<|cl.first+j)<|e<|gv lx aa aa fun bg bN bk C aW=> ?_;have bD:=C.size;have bu:((fs.take i).flatMap (hY F kd)++(gT j).map (cl.first+ ·)).length=((fs.take i).flatMap<|hY F kd).length+j:=by rw [bG,fC,u6]
 have a5:(fs.take i).flatMap (hY F kd)++(gT<|j+1).map (cl.first+ ·)=((fs.take i).flatMap (hY F kd)++(gT j).map (cl.first+ ·))++ [cl.first+j]:=by rw [xA,gS,← eX]; rfl
 refine e<|ap lx (aU ac C.md) aa (by have :=ai.size; omega) aa (aB.dT aW) (aa) (aa) ab ab fun bd bO a4 aA bE br=> ?_;have aY:=Wk.own (ai.trans C.md) (aU ac C.md) aA<|cE _;have a0:=aA.bl (C.md.bl al) fun h=>dO (aU ac C.md) (C.md.bl al) aw h;exact p bm<|aC 7 aa<|tn<|⟨_,ab,j+1,bd,ab,(by rw [a5,gS,bG]; exact a4),a0,aY,aa,aa⟩
 exact aJ 2 aa<|bK<|bc 7 aa<|tn<|⟨_,ab,i+1,v2,ab,(by rw [E,aL,show cl.count=j by omega]; exact ac),(by rewrite [E,aL,bG,fC,u6]; omega),ai,aa,aa⟩
 refine aJ 2 aa<|bK<|dz 3 aa ?_;rw [eY (show fs.length≤i by omega)] at Z;refine aH 1 aa<|ep (v)<|e<|aM (XH w.heap.size _ v ((fs.flatMap<|hY F kd).map fun i:Nat=>(i:Int)) G (by rw [IU]; exact Z)<|by rw [fC]; have :=Vh J.cls an kd; omega) aa ?_;rintro v51 bP ⟨rfl,aO,aZ⟩;rw [XI J.cls an,IU,Jd J.cls an] at aO;exact au 4 aa<|ep (v)<|p (nT (v) aa)<|aC 3 aa<|aR aa<|⟨aO,Wk.own A Z aZ<|cE _⟩
theorem Yh (B tb:Nat) (U:gE) (F:aE) (xs:List bp) (n:Int) (w:ak) (hT:fS w B tb U F xs) (A:ec F xs):
 ba az 45 (a7 [bj tb,.int .i64 n]) w (fun v w'=>bo w' w.heap.size 3 1 v (bh F (flagsOf xs n) 2).length ((bh F (flagsOf xs n) 2).map bJ)∧Wk w w'):=by
 refine enter func45 aa ntmps45 aa<|bg 9 aa<|e<|aM (ya B tb U F xs n w hT A) aa ?_;rintro v10 ai ⟨⟨aj,rfl,V⟩,hE10⟩;obtain ⟨G,I,rfl⟩:=cz V;have ap:=hE10.size;refine p mv<|au 2 aa<|e<|al sd fun Y ax am O ac=> ?_;have aq:=O.size;refine e<|c8 kT aa aa aa aa (ac) (by simp) fun E J Z=> ?_;have C:Wk ai E:=O.md.trans' J fun q an h=>by omega
 have ao:=J.size;have ag:bO E.heap Y ([str (oc xs n),.slice G (flagsOf xs n).length I]):=Z;refine au 7 aa<|p (ld1 aa<|ag.bu 1)<|e<|aM (Cu B tb U F xs (flagsOf xs n) G I 2 E (hT.wk<|hE10.trans C) A ((aX V).2.wk C) (pj A n).1 (pj A n).2.1) aa ?_;rintro av aw ⟨ah,ae⟩;exact p bm<|aC 3 aa<|aR aa<|⟨eR ah ab,(hE10.trans C).trans ae⟩
theorem Wh (B tb:Nat) (U:gE) (F:aE) (xs:List bp) (n:Int) (w:ak) (hT:fS w B tb U F xs) (A:ec F xs):
 ba az 47 (a7 [bj tb,.int .i64 n]) w (fun v w'=>bo w' w.heap.size 3 1 v (bh F (flagsOf xs n) 1).length ((bh F (flagsOf xs n) 1).map bJ)∧Wk w w'):=by
 refine enter func47 aa ntmps47 aa<|bg 9 aa<|e<|aM (ya B tb U F xs n w hT A) aa ?_;rintro v10 ai ⟨⟨aj,rfl,V⟩,hE10⟩;obtain ⟨G,I,rfl⟩:=cz V;have ap:=hE10.size;refine p mv<|au 2 aa<|e<|al sd fun Y ax am O ac=> ?_;have aq:=O.size;refine e<|c8 kT aa aa aa aa (ac) (by simp) fun E J Z=> ?_;have C:Wk ai E:=O.md.trans' J fun q an h=>by omega
 have ao:=J.size;have ag:bO E.heap Y ([str (oc xs n),.slice G (flagsOf xs n).length I]):=Z;refine au 7 aa<|p (ld1 aa<|ag.bu 1)<|e<|aM (Cu B tb U F xs (flagsOf xs n) G I 1 E (hT.wk<|hE10.trans C) A ((aX V).2.wk C) (pj A n).1 (pj A n).2.1) aa ?_;rintro av aw ⟨ah,ae⟩;exact p bm<|aC 3 aa<|aR aa<|⟨eR ah ab,(hE10.trans C).trans ae⟩
theorem Kh (B tb:Nat) (U:gE) (F:aE) (xs:List bp) (n:Int) (w:ak) (hT:fS w B tb U F xs) (A:ec F xs):
 ba az 46 (a7 [bj tb,.int .i64 n]) w (fun v w'=>bo w' w.heap.size 3 1 v (bh F (bV F n) 2).length ((bh F (bV F n) 2).map bJ)∧Wk w w'):=by
 refine enter func46 aa ntmps46 aa<|bg 9 aa<|e<|aM (y8 B tb U F xs n w hT A) aa ?_;rintro v10 ai ⟨⟨aj,rfl,V⟩,hE10⟩;obtain ⟨G,I,rfl⟩:=cz V;have ap:=hE10.size;refine p mv<|au 2 aa<|e<|al qZ fun Y ax am O ac=> ?_;have aq:=O.size;refine e<|c8 oW aa aa aa aa (ac) (by simp) fun E J Z=> ?_;have C:Wk ai E:=O.md.trans' J fun q an h=>by omega
 have ao:=J.size;have ag:bO E.heap Y (eS (s7 F n,.slice G (bV F n).length I)):=Z;refine au 7 aa<|p (ld1 aa<|ag.bu 6)<|e<|aM (Cu B tb U F xs (bV F n) G I 2 E (hT.wk<|hE10.trans C) A ((aX V).2.wk C) (uD A n).1 (uD A n).2.1) aa ?_;rintro av aw ⟨ah,ae⟩;exact p bm<|aC 3 aa<|aR aa<|⟨eR ah ab,(hE10.trans C).trans ae⟩
theorem GA (B tb:Nat) (U:gE) (F:aE) (xs:List bp) (n:Int) (w:ak) (hT:fS w B tb U F xs) (E:ec F xs):
 ba az 90 (a7 [bj tb,.int .i64 n]) w (fun v w'=>v= .bool (oX F n)∧Wk w w'):=by
 refine enter func90 aa ntmps90 aa<|bg 9 aa<|e<|aM (y8 B tb U F xs n w hT E) aa ?_;rintro v10 aq ⟨⟨aw,rfl,ag⟩,hE10⟩;obtain ⟨V,Y,rfl⟩:=cz ag;have aB:=hE10.size;refine p mv<|au 2 aa<|e<|al qZ fun ah aD ax ae am=> ?_;have aC:=ae.size;refine e<|c8 oW aa aa aa aa (am) (by simp) fun C ac ai=> ?_;have Z:Wk aq C:=ae.md.trans' ac fun q ay h=>by omega
 have aA:=ac.size;have ap:bO C.heap ah (eS (s7 F n,.slice V (bV F n).length Y)):=ai;have G:=hE10.trans Z;have ao:=hT.wk G;refine aQ 4 aa<|dZ fun A=>aT [0,1] aa A<|ji (t:=14) aa (fun O=> ?_) fun O=> ?_;refine aT [2] aa A<|cB 3 aa (fun w' I=>ld1 aa<|Wk.aV I<|ap.bu 6) A<|aT [4,5,6,7] aa A<|cB 8 aa (fun _ _=>kF vw aa aa ab) A<|cB 9 aa (fun w' I=>ld1 aa<|Wk.aV I<|K3 ao (k:=0) ab) A<|nq 10 aa aj aa aa aa<|aM (HY V Y (bV F n) (F.sp.getD 0 0) C.drew (((aX ag).2.wk Z).wk A)<|by have :=(uD E n).1; omega) aa ?_;rintro v23 av ⟨rfl,an⟩;have J:(fun w'=>Wk C w') av:=A.trans an;refine ⟨J,?_⟩;exact aT [11,12,13] aa J<|hn aj<|bc 2 aa<|aR aa<|⟨by unfold oX; rw [decide_eq_true O,HZ (uD E n).2.2]; rfl,G.trans J⟩
 exact aT [2,3,4,5,6,7,8,9,10,11,12] aa A<|bP 13 aa (bm) A<|hn aj<|bc 2 aa<|aR aa<|⟨by unfold oX; rw [decide_eq_false O]; rfl,G.trans A⟩
theorem yI (B tb:Nat) (U:gE) (F:aE) (xs:List bp) (n k:Int) (w:ak) (hT:fS w B tb U F xs) (G:ec F xs):
 ba az 23 (a7 [bj tb,.int .i64 n,.int .i64 k]) w (fun v w'=>v= .bool (jP F xs n k)∧Wk w w'):=by
 refine enter func23 aa ntmps23 aa<|bg 7 aa<|p mv<|p mv<|e<|aM (ya B tb U F xs n w hT G) aa ?_;rintro v12 aw ⟨⟨a12,rfl,ag⟩,hE12⟩;obtain ⟨O,V,rfl⟩:=cz ag;have aC:=hE12.size;refine p mv<|au 2 aa<|e<|al sd fun ah aG ay ac am=> ?_;have aD:=ac.size;refine e<|c8 kT aa aa aa aa (am) (by simp) fun E Z ai=> ?_;have Y:Wk aw E:=ac.md.trans' Z fun q aA h=>by omega
 have aB:=Z.size;have ap:bO E.heap ah [str (oc xs n),.slice O (flagsOf xs n).length V]:=ai;have C:=hE12.trans Y;have ao:=hT.wk C;refine aQ 4 aa<|dZ fun A=>aT [0,1] aa A<|ji (t:=16) aa (fun ae=> ?_) fun ae=> ?_;refine cB 2 aa (fun _ _=>mv) A<|aT [3,4,5] aa A<|ji (t:=20) aa (fun aq=> ?_) fun aq=> ?_;refine cB 6 aa (fun _ _=>mv) A<|aT [7,8,9] aa A<|ji (t:=24) aa (fun av=> ?_) fun av=> ?_;obtain ⟨k,rfl⟩:∃ m:Nat,k=(m:Int):=⟨k.toNat,ab⟩
 refine aT [10] aa A<|cB 11 aa (fun w' I=>ld1 aa<|Wk.aV I<|ap.bu 1) A<|cB 12 aa (fun _ _=>mv) A<|cB 13 aa (fun _ _=>mv) A<|aT [14,15,16] aa A<|cB 17 aa (fun _ _=>kF vw aa aa ab) A<|cB 18 aa (fun w' I=>ld1 aa<|Wk.aV I<|K3 ao ab) A<|nq 19 aa aj aa aa aa<|aM (HY O V (flagsOf xs n) (F.sp.getD k 0) E.drew (((aX ag).2.wk Y).wk A)<|by have :=(pj G n).1; omega) aa ?_;rintro aF ax ⟨rfl,an⟩;have J:(fun w'=>Wk E w') ax:=A.trans an;refine ⟨J,?_⟩;exact aT [20,21] aa J<|hn aj<|bc 2 aa<|aR aa<|⟨by unfold jP sV; rw [decide_eq_true (show 0≤((k:Nat):Int)∧((k:Nat):Int) < 5 by omega),kg,HZ (pj G n).2.2]; rfl,C.trans J⟩
 exact aT [10,11,12,13,14,15,16,17,18,19,20] aa A<|bP 21 aa (bm) A<|hn aj<|bc 2 aa<|aR aa<|⟨by unfold jP; rw [decide_eq_false (show ¬(0≤k∧k < 5) by omega)]; rfl,C.trans A⟩
 exact aT [6,7,8] aa A<|bP 9 aa (mv) A<|aT [10,11,12,13,14,15,16,17,18,19,20] aa A<|bP 21 aa (bm) A<|hn aj<|bc 2 aa<|aR aa<|⟨by unfold jP; rw [decide_eq_false (show ¬(0≤k∧k < 5) by omega)]; rfl,C.trans A⟩
 exact aT [2,3,4] aa A<|bP 5 aa (mv) A<|aT [6,7,8] aa A<|bP 9 aa (mv) A<|aT [10,11,12,13,14,15,16,17,18,19,20] aa A<|bP 21 aa (bm) A<|hn aj<|bc 2 aa<|aR aa<|⟨by unfold jP sV; rw [(tR ae).2,decide_eq_false (show ¬(F.sp.getD k.toNat 0≠0∧F.sp.getD k.toNat 0∈[]) from fun h=>by cases h.2),uS]; rfl,C.trans A⟩
end Go.Hb.ki
section
namespace Go.Hb
open Go.Hb.ki
theorem oh {l:List Nat} {i:Nat} (h:i < l.length):(l.map bJ)[i]? =some (bJ<|l.getD i 0):=by rw [fJ,cH,bY h]; rfl
theorem CY (B tb fb:Nat) (V:eo) (ve:ag) (F:aE) (xs:List bp) (n:Int) (w:ak) (E:ga w B tb fb V ve F xs) (O:ec F xs):
 ba az 67 (a7 [bj tb,.int .i64 n]) w (fun v w'=>(∃ a c,v= .slice a (flagsOf xs n).length c∧Tg w' 0 3 (flagsOf xs n).length v ((flagsOf xs n).map bJ))∧Wk w w'):=by
 obtain ⟨ai,ce,ae⟩:=E.DK;have ap:=O.xl;refine enter func67 aa ntmps67 aa<|bg 8 aa<|p mv<|au 2 aa<|gs (t:=7) aa (fun ac=> ?_) fun ac=> ?_;refine aC 18 aa<|aR aa ?_;have A:=(tR (xs:=xs) (n:=n) ab).2;rw [A];exact ⟨⟨none,0,aa,s9 _ _ _⟩,Md.refl _ _⟩;refine bI aa mv<|bI aa mv<|au 2 aa<|bI aa (ld1 aa<|ae)<|aQ 5 aa<|cd aa (fun Z=> ?_) fun Z=> ?_;refine aJ 7 aa<|aR aa ?_;have A:=(tR (xs:=xs) (n:=n) ab).2;rw [A];exact ⟨⟨none,0,aa,s9 _ _ _⟩,Md.refl _ _⟩;obtain ⟨k,rfl⟩:∃ k:Nat,n=(k:Int):=⟨n.toNat,ab⟩
 obtain ⟨x,I⟩:∃ x,xs[k]? =some x:=⟨_,bY ab⟩
 obtain ⟨aj,al,ws,a,c,ah,C,G,Y⟩:=E.eu I;obtain ⟨am,J,an,ao⟩:=tQ I;refine aH 4 aa<|p mv<|au 2 aa<|p (ld1 aa<|ah)<|p mv<|p (a6 GO aa aa ab<|aB.ok (C)<|vF G)<|au 1 aa<|p (ld1 aa<|fI (f:=qF) (m:=2) (fun _=>rfl) C G 1 aw)<|p bm<|aC 3 aa<|aR aa ?_;rw [J];exact ⟨⟨a,c,aa,Y⟩,Md.refl _ _⟩
theorem WV (B tb fb:Nat) (V:eo) (ve:ag) (F:aE) (xs:List bp) (n:Int) (w:ak) (A:ga w B tb fb V ve F xs) (O:ec F xs):
 ba az 182 (a7 [bj tb,.int .i64 n]) w (fun v w'=>(∃ a c,v= .slice a (bV F n).length c∧Tg w' 0 3 (bV F n).length v ((bV F n).map bJ))∧Wk w w'):=by
 obtain ⟨ai,ce,ae⟩:=A.DL;have ap:=O.len;refine enter func182 aa ntmps182 aa<|bg 8 aa<|p mv<|au 2 aa<|gs (t:=7) aa (fun ac=> ?_) fun ac=> ?_;refine aC 21 aa<|aR aa ?_;have C:=(wP (F:=F) (n:=n) ab).2;rw [C];exact ⟨⟨none,0,aa,s9 _ _ _⟩,Md.refl _ _⟩;refine bI aa mv<|bI aa mv<|au 2 aa<|bI aa (ld1 aa<|(a8 A.cells).trans aa)<|au 2 aa<|bI aa (ld1 aa<|ae)<|aQ 5 aa<|cd aa (fun Z=> ?_) fun Z=> ?_;refine aJ 7 aa<|aR aa ?_;have C:=(wP (F:=F) (n:=n) ab).2;rw [C];exact ⟨⟨none,0,aa,s9 _ _ _⟩,Md.refl _ _⟩;obtain ⟨k,rfl⟩:∃ k:Nat,n=(k:Int):=⟨n.toNat,ab⟩
 obtain ⟨r,I⟩:∃ r,F.rules[k]? =some r:=⟨_,bY ab⟩
 obtain ⟨aj,al,a,c,ah,E,G,Y⟩:=A.jm I;obtain ⟨am,J,an,ao⟩:=wO I;refine aH 4 aa<|p mv<|au 2 aa<|p (ld1 aa<|(a8 A.cells).trans aa)<|au 2 aa<|p (ld1 aa<|ah)<|p mv<|p (a6 oY aa aa ab<|aB.ok (E)<|o4 G)<|au 1 aa<|p (ld1 aa<|fI (f:=jZ) (m:=8) (fun _=>rfl) E G 6 aw)<|p bm<|aC 3 aa<|aR aa ?_;rw [J];exact ⟨⟨a,c,aa,Y⟩,Md.refl _ _⟩
theorem Ih (a:Option bF) (c:Nat) (l:List Nat) (x:Nat) (w:ak) (G:aB w.heap a (l.map bJ)) (ac:l.length≤1048576):
 ba az 68 (a7 [.slice a l.length c,bJ x]) w (fun v w'=>v= .bool (decide (x≠0∧x∈l))∧Wk w w'):=by
 refine enter func68 aa ntmps68 aa<|bq 12 aa<|lp (fun E J I=> ∃ (i:Nat),(i≤l.length)∧(∀ j,j < i→¬(l.getD j 0=x∧x≠0))∧(I=w)∧(Sl J [(0,.slice a l.length c),(1,bJ x),(5,ay i)])∧(l.length - i=E)) _ ⟨0,ab,(fun j A=>by omega),aa,aa,aa⟩ ?_;rintro E J I ⟨i,hi,C,O,Z,rfl⟩;refine bA Z ?_;subst O;refine bq 9 aa<|cd aa (fun V=> ?_) fun V=> ?_;refine aH 8 aa<|p (a6 ke aa aa ab<|aB.ok (G)<|bS ab)<|p (ld1 aa<|aB.gV (i:=i) G<|oh ab)<|ep (bJ x)<|au 2 aa<|gs (t:=18) aa (fun heq=> ?_) fun heq=> ?_;refine bI aa (rS (bJ x) aa)<|aQ 4 aa<|cd aa (fun Y=> ?_) fun Y=> ?_;exact aJ 8 aa<|tr<|bc 2 aa<|aR aa<|⟨by rw [decide_eq_true (show x≠0∧x∈l from ⟨ab,(show l.getD i 0=x by omega) ▸ dR ab⟩)]; rfl,Md.refl _ _⟩
 exact aH 5 aa<|p (bC<|i+1)<|aC 2 aa<|tn<|⟨_,ab,i+1,ab,(fun j A=>by rcases fG j i with h | h <;> first | exact C j h | (rw [show j=i by omega]; omega)),aa,aa,aa⟩
 exact au 11 aa<|p (bC<|i+1)<|aC 2 aa<|tn<|⟨_,ab,i+1,ab,(fun j A=>by rcases fG j i with h | h <;> first | exact C j h | (rw [show j=i by omega]; omega)),aa,aa,aa⟩
 exact aJ 2 aa<|bK<|bc 8 aa<|aR aa<|⟨by rw [decide_eq_false (show ¬(x≠0∧x∈l) from fun h=>by obtain ⟨j,A,e⟩:=mM 0 h.2; exact C j ab ⟨e,h.1⟩)]; rfl,Md.refl _ _⟩
theorem WO (B tb fb:Nat) (V:eo) (ve:ag) (F:aE) (xs:List bp) (n:Int) (w:ak) (C:ga w B tb fb V ve F xs) (I:ec F xs):
 ba az 225 (a7 [bj tb,.int .i64 n]) w (fun v w'=>v= .bool (oX F n)∧Wk w w'):=by
 obtain ⟨an,ce,ai⟩:=C.DL;have aA:=I.len;refine enter func225 aa ntmps225 aa<|bg 8 aa<|p mv<|au 2 aa<|gs (t:=8) aa (fun ah=> ?_) fun ah=> ?_;exact aC 21 aa<|aR aa<|⟨by unfold oX; rw [decide_eq_false (show ¬(0≤n∧n < (F.rules.length:Int)) by omega)]; rfl,Md.refl _ _⟩
 refine bI aa mv<|bI aa mv<|au 2 aa<|bI aa (ld1 aa<|(a8 C.cells).trans aa)<|au 2 aa<|bI aa (ld1 aa<|ai)<|aQ 5 aa<|cd aa (fun ae=> ?_) fun ae=> ?_;exact aJ 7 aa<|aR aa<|⟨by unfold oX; rw [decide_eq_false (show ¬(0≤n∧n < (F.rules.length:Int)) by omega)]; rfl,Md.refl _ _⟩
 obtain ⟨k,rfl⟩:∃ k:Nat,n=(k:Int):=⟨n.toNat,ab⟩
 obtain ⟨r,G⟩:∃ r,F.rules[k]? =some r:=⟨_,bY ab⟩
 obtain ⟨ao,ap,a,c,al,J,O,ac⟩:=C.jm G;obtain ⟨aq,Y,av,ax⟩:=wO G;have ay:=(I.jm G).1;refine bz 3 aa<|dZ fun A=>bP 0 aa (mv) A<|aT [1,2] aa A<|cw 3 aa A ((a8 C.cells).trans aa)<|aT [4,5] aa A<|cw 6 aa A (al)<|bP 7 aa (mv) A<|bP 8 aa (a6 oY aa aa ab<|aB.ok (J.wk A)<|o4 O) A<|aT [9] aa A<|cw 10 aa A (fI (f:=jZ) (m:=8) (fun _=>rfl) J O 6 aw)<|bP 11 aa (mv) A<|aT [12,13] aa A<|cw 14 aa A ((a8 C.cells).trans aa)<|aT [15,16] aa A<|bP 17 aa (kF tP aa aa ab) A<|cw 18 aa A (HT C (k:=0) ab)<|he 19 aa aj<|aM (Ih a c r.next (F.sp.getD 0 0) w.drew (ac.wk A).cW.2 ab) aa ?_;rintro v39 am ⟨rfl,Z⟩;have E:(fun w'=>Wk w w') am:=A.trans Z;refine ⟨E,?_⟩;exact aT [20] aa E<|hn aj<|bc 9 aa<|aR aa<|⟨by unfold oX; rw [decide_eq_true (show 0≤(k:Int)∧(k:Int) < (F.rules.length:Int) by omega),Y]; rfl,E⟩
theorem J2 (B tb fb:Nat) (V:eo) (ve:ag) (F:aE) (xs:List bp) (n k:Int) (w:ak) (C:ga w B tb fb V ve F xs) (A:ec F xs):
 ba az 37 (a7 [bj tb,.int .i64 n,.int .i64 k]) w (fun v w'=>v= .bool (jP F xs n k)∧Wk w w'):=by
 refine enter func37 aa ntmps37 aa<|bg 8 aa<|p mv<|au 2 aa<|gs (t:=10) aa (fun O=> ?_) fun O=> ?_;exact aC 13 aa<|aR aa<|⟨by unfold jP; rw [decide_eq_false (show ¬(0≤k∧k < 5) by omega)]; rfl,Md.refl _ _⟩
 refine bI aa mv<|aQ 4 aa<|cd aa (fun J=> ?_) fun J=> ?_;exact aJ 7 aa<|aR aa<|⟨by unfold jP; rw [decide_eq_false (show ¬(0≤k∧k < 5) by omega)]; rfl,Md.refl _ _⟩
 obtain ⟨k,rfl⟩:∃ m:Nat,k=(m:Int):=⟨k.toNat,ab⟩
 refine aH 4 aa<|p mv<|p mv<|e<|aM (CY B tb fb V ve F xs n w C A) aa ?_;rintro Z Y ⟨⟨a,c,rfl,I⟩,hE16⟩;have E:=C.wk hE16;refine p bm<|au 4 aa<|p mv<|p mv<|au 2 aa<|p (ld1 aa<|(a8 E.cells).trans aa)<|p mv<|au 2 aa<|p (kF tP aa aa ab)<|p (ld1 aa<|HT E ab)<|e<|aM (Ih a c (flagsOf xs n) (F.sp.getD k 0) Y I.cW.2<|by have :=(pj A n).1; omega) aa ?_;rintro ac ae ⟨rfl,G⟩;exact aC 4 aa<|aR aa<|⟨by unfold jP sV; rw [decide_eq_true (show 0≤((k:Nat):Int)∧((k:Nat):Int) < 5 by omega),kg]; rfl,hE16.trans G⟩
theorem C0 (B tb fb:Nat) (V:eo) (ve:ag) (F:aE) (xs:List bp) (fs:List Nat) (a:Option bF) (c kd:Nat) (w:ak) (Z:ga w B tb fb V ve F xs) (aO:ec F xs) (am:aB w.heap a (fs.map bJ)) (bw:fs.length≤64) (a1:fs.Pairwise (· < ·)):
 ba az 178 (a7 [bj tb,.slice a fs.length c,ay kd]) w (fun v w'=>bo w' w.heap.size 3 1 v (bh F fs kd).length ((bh F fs kd).map bJ)∧Wk w w'):=by
 have bM:=aO.len;obtain ⟨ar,cr,bb⟩:=Z.DL;refine enter func178 aa ntmps178 aa<|bq 17 aa<|lp (fun J aM ae=> ∃ (i:Nat) (v:ag),(i≤F.rules.length)∧(bo ae w.heap.size 3 1 v (ny F fs kd i).length<|(ny F fs kd i).map bJ)∧(Wk w ae)∧(Sl aM [(0,bj tb),(1,.slice a fs.length c),(2,ay kd),(7,v),(8,ay i)])∧(F.rules.length - i=J)) _ ⟨0,.slice none 0 0,ab,(dE _ _ _ _),(Md.refl _ _),aa,aa⟩ ?_;rintro J aM ae ⟨i,v,hi,aG,G,a4,rfl⟩;refine bA a4<|bg 7 aa<|p (ld1 aa<|(a8 (Z.wk G).cells).trans aa)<|au 2 aa<|p (ld1 aa<|Wk.aV G bb)<|aQ 4 aa<|cd aa (fun a0=> ?_) fun a0=> ?_;obtain ⟨r,aK⟩:∃ r,F.rules[i]? =some r:=⟨_,bY ab⟩
 obtain ⟨bd,bi,ac,rc,a9,an,aI,bs⟩:=(Z.wk G).jm aK;obtain ⟨bk,bn,br,al⟩:=wO aK;have bD:=Vf F fs kd i;have bH:((r,bQ ac r.next.length rc):cJ×ag).1.flag=r.flag:=rfl;have bL:((r,bQ ac r.next.length rc):cJ×ag).1.kind=r.kind:=rfl;refine aH 9 aa<|p (ld1 aa<|(a8 (Z.wk G).cells).trans aa)<|au 2 aa<|p (ld1 aa<|a9)<|au 1 aa<|p (a6 oY aa aa ab<|aB.ok (an)<|o4 aI)<|p (cQ sH aa (aa)<|fI (f:=jZ) (m:=8) (fun _=>rfl) an aI)<|e<|gK DT fun ah bV bu aA aW=> ?_;have bT:=aA.size;refine e<|gA AZ aa aa aa aa aW (by show 8≤8; omega) fun aL aq aP=> ?_;have ao:Wk ae aL:=aA.md.trans' aq fun q bE h=>by omega
 have bN:=aq.size;have aY:aL.heap[ah]? =some (.cells (jZ (r,.slice ac r.next.length rc)).toArray 214 (0,0)):=aP;have a2:=aU aG ao;refine aQ 8 aa<|lp (fun J aN Y=> ∃ (k:Nat) (v2:ag),(k≤fs.length)∧(bo Y w.heap.size 3 1 v2 (ny F fs kd i++ot r fs kd i k).length<|(ny F fs kd i++ot r fs kd i k).map bJ)∧((ny F fs kd i++ot r fs kd i k).length≤i+k)∧(Y.heap[ah]? =some (.cells (jZ (r,.slice ac r.next.length rc)).toArray 214 (0,0)))∧(Wk w Y)∧(Sl aN [(0,bj tb),(1,.slice a fs.length c),(2,ay kd),(7,v2),(8,ay i),(9,bj ah),(10,ay k)])∧(fs.length - k=J)) _ ⟨0,v,ab,(by rw [Jj,ez]; exact a2),(by rw [Jj,ez]; omega),aY,(G.trans ao),aa,aa⟩ ?_;rintro J aN Y ⟨k,v2,bx,I,bB,O,E,a5,rfl⟩;refine bA a5<|bg 8 aa<|gs (t:=37) aa (fun hk=> ?_) fun hk=> ?_;refine au 1 aa<|bI aa (ld1 aa<|(a8 O).trans aa)<|aQ 5 aa<|cd aa (fun aD=> ?_) fun aD=> ?_;refine bz 5 aa<|dZ fun A=>aT [0,1] aa A<|bP 2 aa (a6 ke aa aa ab<|aB.ok (am.wk<|E.trans A)<|bS ab) A<|cw 3 aa A (aB.gV (i:=k) (am.wk E)<|oh ab)<|aT [4] aa A<|cw 5 aa A ((a8 O).trans aa)<|aT [6] aa A<|hn aj<|dz 1 aa<|cd aa (fun ai=> ?_) fun ai=> ?_;have aF:=Vq (kd:=kd) (i:=i) a1 (show k < fs.length by omega) (show fs.getD k 0=r.flag by omega) (show r.kind=kd by omega);refine aH 1 aa<|ep (v2)<|au 1 aa<|e<|gv lx aa aa fun bf bc bt ax aS=> ?_;have bO:=ax.size;have C:Wk Y bc:=A.trans ax.md;refine e<|ap lx (aU I C) aa (by have :=E.size; have :=C.size; omega) aa (aB.dT aS) (aa) (aa) ab ab fun v55 bU a3 av bR bv=> ?_;have aX:=Wk.own (E.trans C) (aU I C) av<|cE _;have aZ:=av.bl (C.bl O) fun h=>dO (aU I C) (C.bl O) aw h;exact p bm<|au 5 aa<|p (bC<|k+1)<|aC 2 aa<|tn<|⟨_,ab,k+1,v55,ab,(by rw [aF,← eX,gS,bG]; exact a3),(by rewrite [aF,← eX,bG]; simp only [fg]; omega),aZ,aX,aa,aa⟩
 exact aH 5 aa<|p (bC<|k+1)<|aC 2 aa<|tn<|⟨_,ab,k+1,v2,ab,(by rw [Ji (show k < fs.length by omega) (fun h=>ai ab)]; exact aU I A),(by rewrite [Ji (show k < fs.length by omega) (fun h=>ai ab)]; omega),(A.bl O),(E.trans A),aa,aa⟩
 exact aJ 2 aa<|bK<|dq 5 aa<|p (bC<|i+1)<|aC 2 aa<|tn<|⟨_,ab,i+1,v2,ab,(by rw [← Jh (r:=r) al (.inr fun h=>aD ab)]; exact I),E,aa,aa⟩
 exact aC 10 aa<|bK<|dq 5 aa<|p (bC<|i+1)<|aC 2 aa<|tn<|⟨_,ab,i+1,v2,ab,(by rw [← Jh (r:=r) al (.inl (show k=fs.length by omega))]; exact I),E,aa,aa⟩
 refine aJ 2 aa<|bK<|dq 4 aa<|ep (v)<|p (nT (v) aa)<|aC 3 aa<|aR aa ?_;have hn:ny F fs kd i=bh F fs kd:=by rw [show i=F.rules.length by omega]; rfl
 rw [← hn];exact ⟨aG,G⟩
theorem W8 (B tb fb:Nat) (V:eo) (ve:ag) (F:aE) (xs:List bp) (n:Int) (w:ak) (C:ga w B tb fb V ve F xs) (A:ec F xs):
 ba az 110 (a7 [bj tb,.int .i64 n]) w (fun v w'=>bo w' w.heap.size 3 1 v (bh F (flagsOf xs n) 2).length ((bh F (flagsOf xs n) 2).map bJ)∧Wk w w'):=by
 refine enter func110 aa ntmps110 aa<|bg 9 aa<|e<|aM (CY B tb fb V ve F xs n w C A) aa ?_;rintro Y J ⟨⟨a,c,rfl,G⟩,hE8⟩;have O:=hE8.size;refine p bm<|au 5 aa<|p mv<|e<|aM (C0 B tb fb V ve F xs (flagsOf xs n) a c 2 J (C.wk hE8) A G.cW.2 (pj A n).1 (pj A n).2.1) aa ?_;rintro v11 Z ⟨I,E⟩;exact p bm<|aC 3 aa<|aR aa<|⟨eR I ab,hE8.trans E⟩
theorem W0 (B tb fb:Nat) (V:eo) (ve:ag) (F:aE) (xs:List bp) (n:Int) (w:ak) (C:ga w B tb fb V ve F xs) (A:ec F xs):
 ba az 108 (a7 [bj tb,.int .i64 n]) w (fun v w'=>bo w' w.heap.size 3 1 v (bh F (flagsOf xs n) 1).length ((bh F (flagsOf xs n) 1).map bJ)∧Wk w w'):=by
 refine enter func108 aa ntmps108 aa<|bg 9 aa<|e<|aM (CY B tb fb V ve F xs n w C A) aa ?_;rintro Y J ⟨⟨a,c,rfl,G⟩,hE8⟩;have O:=hE8.size;refine p bm<|au 5 aa<|p mv<|e<|aM (C0 B tb fb V ve F xs (flagsOf xs n) a c 1 J (C.wk hE8) A G.cW.2 (pj A n).1 (pj A n).2.1) aa ?_;rintro v11 Z ⟨I,E⟩;exact p bm<|aC 3 aa<|aR aa<|⟨eR I ab,hE8.trans E⟩
theorem W7 (B tb fb:Nat) (V:eo) (ve:ag) (F:aE) (xs:List bp) (n:Int) (w:ak) (C:ga w B tb fb V ve F xs) (A:ec F xs):
 ba az 112 (a7 [bj tb,.int .i64 n]) w (fun v w'=>bo w' w.heap.size 3 1 v (bh F (bV F n) 2).length ((bh F (bV F n) 2).map bJ)∧Wk w w'):=by
 refine enter func112 aa ntmps112 aa<|bg 9 aa<|e<|aM (WV B tb fb V ve F xs n w C A) aa ?_;rintro Y J ⟨⟨a,c,rfl,G⟩,hE8⟩;have O:=hE8.size;refine p bm<|au 5 aa<|p mv<|e<|aM (C0 B tb fb V ve F xs (bV F n) a c 2 J (C.wk hE8) A G.cW.2 (uD A n).1 (uD A n).2.1) aa ?_;rintro v11 Z ⟨I,E⟩;exact p bm<|aC 3 aa<|aR aa<|⟨eR I ab,hE8.trans E⟩
end Go.Hb
end
section
namespace Go.Hb
open Go.Hb.oK
theorem KP {ps:List Tx} {w:Tx} {i:Nat} (hi:i < ps.length) (h:db (ps.getD i []) (w.getD i 0)=false):ph ps w=false :=by
 unfold ph;rw [Bool.and_eq_false_iff];refine .inr ?_;rw [List.all_eq_false];exact ⟨i,by simpa using hi,by rw [h]; exact dM⟩
theorem KR {ps:List Tx} {w:Tx} (A:ps.length≤w.length) (h:∀ i,i < ps.length→db (ps.getD i []) (w.getD i 0)=true):ph ps w=true :=by
 unfold ph;rw [il,decide_eq_true A,List.all_eq_true];exact ⟨aa,fun i hi=>h i<|by simpa using hi⟩
theorem KQ {ps:List Tx} {w:Tx} (h:w.length < ps.length):ph ps w=false :=by
 unfold ph; rw [decide_eq_false ab]; rfl
theorem SU (s pr:List UInt8) (w:ak) (hs:s.length≤1099511627776) (hp:pr.length≤1099511627776):
 ba az 167 (a7 [str s,str pr]) w (fun v w'=>v= .bool (decide (s.take pr.length=pr))∧Wk w w'):=by
 refine enter func167 aa ntmps167 aa<|bg 9 aa<|e<|aM (BT s pr _ hs hp) aa ?_;rintro C E ⟨rfl,A⟩;exact aC 4 aa<|aR aa<|⟨aa,A⟩
theorem SV (s pr:List UInt8) (w:ak) (hs:s.length≤1099511627776) (hp:pr.length≤1099511627776):
 ba az 165 (a7 [str s,str pr]) w (fun v w'=>v= .bool (decide (pr.length≤s.length∧s.drop (s.length - pr.length)=pr))∧Wk w w'):=by
 refine enter func165 aa ntmps165 aa<|bg 9 aa<|e<|aM (yw s pr _ hs hp) aa ?_;rintro C E ⟨rfl,A⟩;exact aC 4 aa<|aR aa<|⟨aa,A⟩
theorem VX (ps:List Tx) (a:Option bF) (c:Nat) (i:Nat) (b:UInt8) (w:ak) (E:aB w.heap a (lK ps)) (hi:i < ps.length) (ac:ps.length≤4096):
 ba az 221 (a7 [.agg [.slice a ps.length c].toArray,ay i,.int .u8 b.toNat]) w (fun v w'=>v= .bool (db (ps.getD i []) b)∧Wk w w'):=by
 refine enter func221 aa ntmps221 aa<|bg 2 aa<|e<|iL aa fun I G V A J=> ?_;have C:bO G.heap I [.slice a ps.length c]:=J;refine au 8 aa<|gs (t:=9) aa (fun Z=> ?_) fun h=>absurd ab h;refine au 2 aa<|bI aa (ld1 aa<|C.bu 0)<|au 4 aa<|gs (t:=16) aa (fun Y=> ?_) fun h=>absurd ab h;refine au 1 aa<|bI aa (ld1 aa<|C.bu 0)<|au 1 aa<|bI aa (a6 GM aa aa ab<|aB.ok (E.wk A.md)<|FK ab)<|bI aa (cQ la aa (aa)<|FJ (E.wk A.md) hi)<|au 1 aa<|eg aa aa aa<|aM (H0 (db<|ps.getD i []) b G) aa ?_;rintro v23 ae ⟨rfl,O⟩;exact aC 5 aa<|aR aa<|⟨aa,A.md.trans O⟩
theorem JL (ps:List Tx) (a:Option bF) (c:Nat) (s:Tx) (w:ak) (ai:aB w.heap a (lK ps)) (ao:ps.length≤4096):
 ba az 168 (a7 [.agg [.slice a ps.length c].toArray,str s]) w (fun v w'=>v= .bool (ph ps s)∧Wk w w'):=by
 refine enter func168 aa ntmps168 aa<|bg 2 aa<|e<|iL aa fun V ae av E ah=> ?_;have I:bO ae.heap V [.slice a ps.length c]:=ah;refine au 9 aa<|p (ld1 aa<|I.bu 0)<|aQ 4 aa<|cd aa (fun am=> ?_) fun am=> ?_;exact aJ 7 aa<|aR aa<|⟨by rw [KQ ab]; rfl,E.md⟩
 refine aH 6 aa<|p (ld1 aa<|I.bu 0)<|aQ 5 aa<|lp (fun Y ag G=> ∃ (i:Nat),(i≤ps.length)∧(∀ k,k < i→db (ps.getD k []) (s.getD k 0)=true)∧(Wk ae G)∧(Sl ag [(1,str s),(2,bj V),(14,ay (ps.length)),(15,ay i)])∧(ps.length - i=Y)) _ ⟨0,ab,(fun k hk=>absurd hk<|M9 _),(Md.refl _ _),aa,aa⟩ ?_;rintro Y ag G ⟨i,hi,ac,C,ap,rfl⟩;refine bA ap<|bq 6 aa<|cd aa (fun an=> ?_) fun an=> ?_;refine bz 11 aa<|dZ fun A=>fz 0 aa (fun w' al=>cQ nS aa (aa) fun j aw=>(Wk.B al<|Wk.B C I).bu j) A<|aT [1,2,3] aa A<|bP 4 aa (e5 u9 aa aa ab) A<|he 5 aa aj<|aM (VX ps a c i (s.getD i 0) G.drew (ai.wk<|E.md.trans<|C.trans A) ab ao) aa ?_;rintro v23 aq ⟨rfl,J⟩;have Z:(fun w'=>Wk G w') aq:=A.trans J;refine ⟨Z,?_⟩;refine aT [6] aa Z<|hn aj<|dz 1 aa<|cb aa (fun O=> ?_) fun O=> ?_;exact aJ 8 aa<|tr<|bc 2 aa<|aR aa<|⟨by rw [KP (i:=i) ab (by simpa using O)]; rfl,E.md.trans<|C.trans<|A.trans J⟩
 exact aJ 7 aa<|tn<|⟨_,ab,i+1,ab,(fun k hk=>by rcases pI.1 hk with h | rfl; exact ac k h; simpa using O),(C.trans<|A.trans J),aa,aa⟩
 exact aJ 2 aa<|bK<|bc 8 aa<|aR aa<|⟨by rw [KR ab (fun k hk=>ac k ab)]; rfl,E.md.trans C⟩
section
variable {r:cJ} {s:Tx}
theorem Hf (h:(dj r.cond).2≠0):ib r s=false :=by unfold ib; rw [decide_eq_false (fun h2=>h h2.1)]; rfl
theorem Hg (h:s.length≤r.strip.length):ib r s=false :=by unfold ib; rw [decide_eq_false (fun h2=>by omega)]; rfl
variable (h:(dj r.cond).2=0) (h1:r.strip.length < s.length)
include h h1
theorem yh (hk:r.kind=2):ib r s=(decide (s.drop (s.length - r.strip.length)=r.strip) && rE (dj r.cond).1 s):=by unfold ib; rw [decide_eq_true ⟨h,h1⟩,if_pos hk]; rfl
theorem yg (hk:r.kind=1):ib r s=(decide (s.take r.strip.length=r.strip) && ph (dj r.cond).1 s):=by unfold ib; rw [decide_eq_true ⟨h,h1⟩,if_neg ab,if_pos hk]; rfl
omit h h1 in
theorem He (hk:r.kind≠1) (A:r.kind≠2):ib r s=false :=by unfold ib; rw [if_neg A,if_neg hk,uS]
end
theorem V9 (ps:List Tx) (a:Option bF) (c:Nat) (s:Tx) (w:ak) (Y:aB w.heap a (lK ps)) (ae:ps.length≤4096) (al:s.length≤1073741824):
 ba az 166 (a7 [.agg [.slice a ps.length c].toArray,str s]) w (fun v w'=>v= .bool (rE ps s)∧Wk w w'):=by
 refine enter func166 aa ntmps166 aa<|bg 2 aa<|e<|iL aa fun O J ah G V=> ?_;have E:bO J.heap O [.slice a ps.length c]:=V;refine aQ 4 aa<|dZ fun A=>aT [0,1,2] aa A<|fz 3 aa (fun w' C=>ld1 aa<|Wk.aV C<|E.bu 0) A<|aT [4,5,6] aa A<|ji (t:=11) aa (fun ac=> ?_) fun ac=> ?_;refine cB 7 aa (fun w' C=>cQ nS aa (aa) fun j ai=>(Wk.B C E).bu j) A<|aT [8,9,10,11] aa A<|cB 12 aa (fun w' C=>ld1 aa<|Wk.aV C<|E.bu 0) A<|aT [13] aa A<|cB 14 aa (fun _ _=>dQ<|s.length - ps.length) A<|cB 15 aa (fun _ _=>mS u9 aa aa ab) A<|nq 16 aa aj aa aa aa<|aM (JL ps a c (s.drop<|s.length - ps.length) J.drew (Y.wk<|G.md.trans A) ae) aa ?_;rintro v21 ag ⟨rfl,Z⟩;have I:(fun w'=>Wk J w') ag:=A.trans Z;refine ⟨I,?_⟩;exact aT [17,18] aa I<|hn aj<|bc 2 aa<|aR aa<|⟨by unfold rE; rw [decide_eq_true (show ps.length≤s.length by omega)]; rfl,G.md.trans I⟩
 exact aT [7,8,9,10,11,12,13,14,15,16,17] aa A<|bP 18 aa (bm) A<|hn aj<|bc 2 aa<|aR aa<|⟨by unfold rE; rw [decide_eq_false (show ¬ps.length≤s.length by omega)]; rfl,G.md.trans A⟩
theorem Hh (r:cJ) (u:ag) (s:Tx) (w:ak) (aZ:r.strip.length≤1048576) (aU:r.add.length≤1048576) (aF:r.cond.length≤1048576) (aI:s.length≤1073741824):
 ba az 104 (a7 [.agg (eS (r,u)).toArray,str s]) w (fun v w'=>v= .bool (ib r s)∧Wk w w'):=by
 refine enter func104 aa ntmps104 aa<|bg 2 aa<|e<|iL aa fun an am aO ah aq=> ?_;have aY:((r,u):cJ×ag).1.strip.length=r.strip.length:=rfl;have aW:((r,u):cJ×ag).1.kind=r.kind:=rfl;have aV:((r,u):cJ×ag).1.add.length=r.add.length:=rfl;have Y:bO am.heap an (eS (r,u)):=aq;refine au 6 aa<|p (ld1 aa<|Y.bu 5)<|e<|aM (FZ r.cond am aF) aa ?_;rintro v10 aK ⟨⟨ac,rfl,aj⟩,hE10⟩;obtain ⟨a,c,rfl⟩:=cz aj;have ae:=(aX aj).2;have aS:=FX r.cond;have a1:=ah.size;have a0:=hE10.size;refine p mv<|au 2 aa<|e<|al zJ fun ao a6 aP ai av=> ?_;have a2:=ai.size;refine e<|c8 rC aa aa aa aa (av) (by simp) fun J ay ap=> ?_;have E:Wk aK J:=ai.md.trans' ay fun q aT h=>by omega
 have Z:bO J.heap ao [.slice a (dj r.cond).1.length c]:=ap;have C:=Wk.B (hE10.trans E) Y;have A:=ah.md.trans<|hE10.trans E;refine au 9 aa<|gs (t:=15) aa (fun aA=> ?_) fun aA=> ?_;exact aC 17 aa<|aR aa<|⟨by rw [Hf ab]; rfl,A⟩
 refine au 3 aa<|bI aa (ld1 aa<|C.bu 3)<|aQ 5 aa<|cd aa (fun aG=> ?_) fun aG=> ?_;exact aJ 7 aa<|aR aa<|⟨by rw [Hg ab]; rfl,A⟩
 refine aH 6 aa<|p (ld1 aa<|C.bu 0)<|aQ 9 aa<|cd aa (fun aE=> ?_) fun aE=> ?_;refine aH 4 aa<|p (ld1 aa<|C.bu 3)<|e<|aM (SV s r.strip J ab ab) aa ?_;rintro v30 aL ⟨rfl,G⟩;refine au 1 aa<|gb (t:=31) aa (fun V=> ?_) fun V=> ?_;refine bI aa (cQ nS aa (aa) fun j aB=>(Wk.B G Z).bu j)<|au 1 aa<|eg aa aa aa<|aM (V9 (dj r.cond).1 a c s aL (ae.wk<|E.trans G) ab aI) aa ?_;rintro a3 a4 ⟨rfl,aw⟩;exact aC 7 aa<|aR aa<|⟨by rw [yh ab ab ab,decide_eq_true (of_decide_eq_true V).2]; rfl,A.trans<|G.trans aw⟩
 exact au 4 aa<|p bm<|aC 5 aa<|aR aa<|⟨by rw [yh ab ab ab,decide_eq_false (fun h=>of_decide_eq_false V ⟨ab,h⟩)]; rfl,A.trans G⟩
 refine bz 6 aa<|cd aa (fun aD=> ?_) fun aD=> ?_;refine aH 4 aa<|p (ld1 aa<|C.bu 3)<|e<|aM (SU s r.strip J ab ab) aa ?_;rintro v41 aN ⟨rfl,I⟩;refine au 1 aa<|gb (t:=42) aa (fun O=> ?_) fun O=> ?_;refine bI aa (cQ nS aa (aa) fun j aB=>(Wk.B I Z).bu j)<|au 1 aa<|eg aa aa aa<|aM (JL (dj r.cond).1 a c s aN (ae.wk<|E.trans I) ab) aa ?_;rintro v45 a5 ⟨rfl,ax⟩;exact aC 7 aa<|aR aa<|⟨by rw [yg ab ab ab,O]; rfl,A.trans<|I.trans ax⟩
 exact au 4 aa<|p bm<|aC 5 aa<|aR aa<|⟨by rw [yg ab ab ab,O]; rfl,A.trans I⟩
 exact aJ 9 aa<|aR aa<|⟨by rw [He ab ab]; rfl,A⟩
def ly (s p:Tx):Tx:=if p.length≤s.length∧s.drop (s.length - p.length)=p then s.take (s.length - p.length) else s
theorem AD {r:cJ} {s:Tx} (h:ib r s=false):eE r s=none:=if_neg<|by rw [h]; exact dM
theorem vL {r:cJ} {s:Tx} (h:ib r s=true):r.strip.length < s.length∧(r.kind=2→s.drop (s.length - r.strip.length)=r.strip)∧(r.kind≠2→s.take r.strip.length=r.strip):=by
 unfold ib at h;rw [il,decide_eq_true_eq] at h;refine ⟨h.1.2,fun hk=> ?_,fun hk=> ?_⟩
 · have h2:=h.2; rw [if_pos hk,il] at h2; exact of_decide_eq_true h2.1
 · have h2:=h.2; rw [if_neg hk] at h2;split at h2
   · rw [il] at h2; exact of_decide_eq_true h2.1
   · cases h2
theorem N3 {r:cJ} {s:Tx} (h:ib r s=true) (hk:r.kind=2):eE r s=some (ly s r.strip++r.add):=by
 have h1:=vL h;unfold eE ly; rw [if_pos h,if_pos hk,if_pos ⟨ab,h1.2.1 hk⟩]
theorem N2 {r:cJ} {s:Tx} (h:ib r s=true) (hk:r.kind≠2):eE r s=some (r.add++gn s r.strip):=by
 have h1:=vL h;unfold eE gn; rw [if_pos h,if_neg hk,if_pos (h1.2.2 hk)]
theorem E9 {r:cJ} {s:Tx} (h:ib r s=true) (hk:r.kind=2):eE r s=some (s.take (s.length - r.strip.length)++r.add):=by
 unfold eE; rw [if_pos h,if_pos hk]
theorem E8 {r:cJ} {s:Tx} (h:ib r s=true) (hk:r.kind≠2):eE r s=some (r.add++s.drop r.strip.length):=by
 unfold eE; rw [if_pos h,if_neg hk]
def wj (x:Option Tx):ag:= .tuple #[str (x.getD []),.bool x.isSome]
theorem YC (s pr:List UInt8) (w:ak) (hs:s.length≤1099511627776) (hp:pr.length≤1099511627776):
 ba az 209 (a7 [str s,str pr]) w (fun v w'=>v=str (ly s pr)∧Wk w w'):=by
 refine enter func209 aa ntmps209 aa<|bg 10 aa<|e<|aM (yw s pr _ hs hp) aa ?_;rintro G I ⟨rfl,E⟩;refine aQ 2 aa<|cb aa (fun A=> ?_) fun A=> ?_;have C:=of_decide_eq_true A;exact aH 7 aa<|p (dQ<|s.length - pr.length)<|p (r6 u9 aa aa ab)<|aC 5 aa<|aR aa<|⟨by show str (s.take (((s.length - pr.length:Nat):Int)).toNat)=_; unfold ly; rw [if_pos C]; rfl,E⟩
 have C:=of_decide_eq_false A;exact aJ 9 aa<|aR aa<|⟨by show str s=_; unfold ly; rw [if_neg C],E⟩
theorem YD (s pr:List UInt8) (w:ak) (hs:s.length≤1099511627776) (hp:pr.length≤1099511627776):
 ba az 145 (a7 [str s,str pr]) w (fun v w'=>v=str (ly s pr)∧Wk w w'):=by
 refine enter func145 aa ntmps145 aa<|bg 9 aa<|e<|aM (YC s pr _ hs hp) aa ?_;rintro C E ⟨rfl,A⟩;exact aC 4 aa<|aR aa<|⟨aa,A⟩
theorem N4 (r:cJ) (u:ag) (s:Tx) (w:ak) (aq:r.strip.length≤1048576) (ao:r.add.length≤1048576) (ap:r.cond.length≤1048576) (av:s.length≤1073741824):
 ba az 89 (a7 [.agg (eS (r,u)).toArray,str s]) w (fun v w'=>v=wj (eE r s)∧Wk w w'):=by
 refine enter func89 aa ntmps89 aa<|bg 2 aa<|e<|iL aa fun ah ae ay an ai=> ?_;have aE:((r,u):cJ×ag).1.strip.length=r.strip.length:=rfl;have aD:((r,u):cJ×ag).1.kind=r.kind:=rfl;have aC:((r,u):cJ×ag).1.add.length=r.add.length:=rfl;have Z:bO ae.heap ah (eS (r,u)):=ai;refine au 7 aa<|p (cQ lI aa (aa) fun j aB=>Z.bu j)<|au 1 aa<|e<|aM (Hh r u s ae aq ao ap av) aa ?_;rintro aG O ⟨rfl,ac⟩;have E:=Wk.B ac Z;have V:=an.md.trans ac;refine aQ 3 aa<|cb aa (fun Y=> ?_) fun Y=> ?_;have G:ib r s=false :=by simpa using Y
 exact aJ 8 aa<|f2 aa aa aa<|⟨by rw [AD G]; rfl,V⟩
 have G:ib r s=true :=by simpa using Y
 have aA:=(vL G).1;refine aH 6 aa<|p (ld1 aa<|E.bu 0)<|aQ 3 aa<|cd aa (fun hk=> ?_) fun hk=> ?_;refine bz 1 aa<|dZ fun A=>aT [0,1] aa A<|cw 2 aa A (E.bu 3)<|aT [4] aa A<|cw 5 aa A (E.bu 4)<|he 3 aa aj<|aM (YD s r.strip O.drew ab ab) aa ?_;rintro aF aw ⟨rfl,al⟩;have I:(fun w'=>Wk O w') aw:=A.trans al;refine ⟨I,?_⟩;exact bP 6 aa (cc aa aa (by have :(ly s r.strip).length≤s.length:=(by unfold ly; split <;> simp <;> omega); omega)) I<|aT [7,8] aa I<|hn aj<|bc 3 aa<|f2 aa aa aa<|⟨by rw [N3 G ab]; rfl,V.trans I⟩
 refine bz 3 aa<|dZ fun C=>aT [0] aa C<|cw 1 aa C (E.bu 4)<|aT [2,3] aa C<|cw 4 aa C (E.bu 3)<|he 5 aa aj<|aM (K6 s r.strip O.drew ab ab) aa ?_;rintro v25 ax ⟨rfl,am⟩;have J:(fun w'=>Wk O w') ax:=C.trans am;refine ⟨J,?_⟩;exact bP 6 aa (cc aa aa (by have :(gn s r.strip).length≤s.length:=(by unfold gn; split <;> simp); omega)) J<|aT [7,8] aa J<|hn aj<|bc 2 aa<|f2 aa aa aa<|⟨by rw [N2 G ab]; rfl,V.trans J⟩
theorem J8 (ps:List Tx) (a:Option bF) (c:Nat) (s:Tx) (w:ak) (O:aB w.heap a (ps.map str)) (an:ps.length≤4096) (Y:∀ t∈ps,(t.length=1∨3≤t.length)∧t.length≤1048576):
 ba az 230 (a7 [.slice a ps.length c,str s]) w (fun v w'=>v= .bool (ph ps s)∧Wk w w'):=by
 refine enter func230 aa ntmps230 aa<|bq 15 aa<|cd aa (fun ag=> ?_) fun ag=> ?_;exact aJ 7 aa<|aR aa<|⟨by rw [KQ ab]; rfl,Md.refl _ _⟩
 refine bz 9 aa<|lp (fun J Z G=> ∃ (i:Nat),(i≤ps.length)∧(∀ k,k < i→db (ps.getD k []) (s.getD k 0)=true)∧(Wk w G)∧(Sl Z [(0,.slice a ps.length c),(1,str s),(5,ay i)])∧(ps.length - i=J)) _ ⟨0,ab,(fun k hk=>absurd hk<|M9 _),(Md.refl _ _),aa,aa⟩ ?_;rintro J Z G ⟨i,hi,V,C,ai,rfl⟩;refine bA ai<|bq 9 aa<|cd aa (fun ah=> ?_) fun ah=> ?_;refine bz 5 aa<|dZ fun A=>aT [0,1] aa A<|bP 2 aa (a6 GN aa aa ab<|aB.ok (O.wk C)<|bS ab) A<|fz 3 aa (fun w' ae=>cQ tN aa (aa) (show ∀ j,j < 1→Hb.aV w'.heap (bk a) (fo a+i*1 +j)= [str (ps.getD i [])][j]? from fun j am=>by cases j with | zero=>exact Wk.aV ae (IV (O.wk C) ab) | succ j=>omega)) A<|aT [4,5] aa A<|bP 6 aa (e5 u9 aa aa ab) A<|he 7 aa aj<|aM (EN (ps.getD i []) (s.getD i 0) G.drew (Y _<|dR ab).1 (Y _<|dR ab).2) aa ?_;rintro v25 al ⟨rfl,ac⟩;have E:(fun w'=>Wk G w') al:=A.trans ac;refine ⟨E,?_⟩;refine aT [8] aa E<|hn aj<|dz 7 aa<|cb aa (fun I=> ?_) fun I=> ?_;exact aJ 8 aa<|tr<|bc 2 aa<|aR aa<|⟨by rw [KP (i:=i) ab (by simpa using I)]; rfl,C.trans E⟩
 exact aH 5 aa<|p (bC<|i+1)<|aC 2 aa<|tn<|⟨_,ab,i+1,ab,(fun k hk=>by rcases pI.1 hk with h | rfl; exact V k h; simpa using I),(C.trans E),aa,aa⟩
 exact aJ 2 aa<|bK<|bc 8 aa<|aR aa<|⟨by rw [KR ab (fun k hk=>V k ab)]; rfl,C⟩
theorem WB (ps:List Tx) (a:Option bF) (c:Nat) (s:Tx) (w:ak) (A:aB w.heap a (ps.map str)) (G:ps.length≤4096) (J:s.length≤1073741824) (I:∀ t∈ps,(t.length=1∨3≤t.length)∧t.length≤1048576):
 ba az 229 (a7 [.slice a ps.length c,str s]) w (fun v w'=>v= .bool (rE ps s)∧Wk w w'):=by
 refine enter func229 aa ntmps229 aa<|bq 15 aa<|cd aa (fun E=> ?_) fun E=> ?_;exact aJ 7 aa<|aR aa<|⟨by unfold rE; rw [decide_eq_false (show ¬ps.length≤s.length by omega)]; rfl,Md.refl _ _⟩
 refine aH 10 aa<|p (dQ<|s.length - ps.length)<|p (mS u9 aa aa ab)<|e<|aM (J8 ps a c (s.drop<|s.length - ps.length) w A G I) aa ?_;rintro O V ⟨rfl,C⟩;exact aC 4 aa<|aR aa<|⟨by unfold rE; rw [decide_eq_true (show ps.length≤s.length by omega)]; rfl,C⟩
theorem WM (r:cJ) (u:ag) (s:Tx) (w:ak) (aL:r.strip.length≤1048576) (aE:r.add.length≤1048576) (aF:r.cond.length≤1048576) (aN:s.length≤1073741824):
 ba az 181 (a7 [.agg (jZ (r,u)).toArray,str s]) w (fun v w'=>v= .bool (ib r s)∧Wk w w'):=by
 refine enter func181 aa ntmps181 aa<|bg 2 aa<|e<|iL aa fun ap ao aB av aq=> ?_;have aK:((r,u):cJ×ag).1.strip.length=r.strip.length:=rfl;have aI:((r,u):cJ×ag).1.kind=r.kind:=rfl;have aG:((r,u):cJ×ag).1.add.length=r.add.length:=rfl;have ae:bO ao.heap ap (jZ (r,u)):=aq;refine au 6 aa<|p (ld1 aa<|ae.bu 5)<|e<|aM (JO r.cond ao ab) aa ?_;rintro aO an ⟨⟨ac,rfl,ai⟩,hE13⟩;obtain ⟨a,c,rfl⟩:=cz ai;have ah:=(aX ai).2;have V:= @FW r.cond;have al:∀ t∈(dj r.cond).1,(t.length=1∨3≤t.length)∧t.length≤1048576:=fun t am=>⟨(V.1 t am).1,by have :=(V.1 t am).2; omega⟩
 have G:=Wk.B hE13 ae;have E:=av.md.trans hE13;have aD:=V.2;refine p mv<|au 2 aa<|p bm<|au 6 aa<|p (ld1 aa<|G.bu 3)<|au 10 aa<|gs (t:=21) aa (fun aw=> ?_) fun aw=> ?_;exact aC 15 aa<|aR aa<|⟨by rw [Hf ab]; rfl,E⟩
 refine aQ 7 aa<|cd aa (fun aA=> ?_) fun aA=> ?_;exact aJ 7 aa<|aR aa<|⟨by rw [Hg ab]; rfl,E⟩
 refine aH 6 aa<|p (ld1 aa<|G.bu 0)<|aQ 3 aa<|cd aa (fun ay=> ?_) fun ay=> ?_;refine aH 2 aa<|p mv<|au 1 aa<|e<|aM (WB (dj r.cond).1 a c s an ah ab ab al) aa ?_;rintro v32 aP ⟨rfl,I⟩;refine aQ 4 aa<|dZ fun A=>aT [0,1] aa A<|yz (t:=34) aa (fun Z=> ?_) fun Z=> ?_;exact aT [2,3,4,5] aa A<|cB 6 aa (fun _ _=>dQ<|s.length - r.strip.length) A<|cB 7 aa (fun _ _=>mS u9 aa aa ab) A<|aT [8] aa A<|cB 9 aa (fun w' O=>ld1 aa<|Wk.aV O<|(Wk.B I G).bu 3) A<|aT [10,11,12] aa A<|hn aj<|bc 3 aa<|aR aa<|⟨by rw [yh ab ab ab,Z,DY]; rfl,E.trans<|I.trans A⟩
 exact aT [2,3,4,5,6,7,8,9,10,11] aa A<|bP 12 aa (bm) A<|hn aj<|bc 3 aa<|aR aa<|⟨by rw [yh ab ab ab,Z,uS]; rfl,E.trans<|I.trans A⟩
 refine aH 6 aa<|p (ld1 aa<|G.bu 0)<|aQ 3 aa<|cd aa (fun ax=> ?_) fun ax=> ?_;refine aH 2 aa<|p mv<|au 1 aa<|e<|aM (J8 (dj r.cond).1 a c s an ah ab al) aa ?_;rintro v50 aS ⟨rfl,J⟩;refine aQ 4 aa<|dZ fun C=>aT [0,1] aa C<|yz (t:=52) aa (fun Y=> ?_) fun Y=> ?_;exact aT [2,3] aa C<|cB 4 aa (fun _ _=>r6 u9 aa aa ab) C<|aT [5] aa C<|cB 6 aa (fun w' O=>ld1 aa<|Wk.aV O<|(Wk.B J G).bu 3) C<|aT [7,8,9] aa C<|hn aj<|bc 3 aa<|aR aa<|⟨by rw [yg ab ab ab,Y,DY]; rfl,E.trans<|J.trans C⟩
 exact aT [2,3,4,5,6,7,8] aa C<|bP 9 aa (bm) C<|hn aj<|bc 3 aa<|aR aa<|⟨by rw [yg ab ab ab,Y,uS]; rfl,E.trans<|J.trans C⟩
 exact aJ 8 aa<|aR aa<|⟨by rw [He ab ab]; rfl,E⟩
theorem CT (r:cJ) (u:ag) (s:Tx) (w:ak) (al:r.strip.length≤1048576) (ah:r.add.length≤1048576) (ai:r.cond.length≤1048576) (am:s.length≤1073741824):
 ba az 111 (a7 [.agg (jZ (r,u)).toArray,str s]) w (fun v w'=>v=wj (eE r s)∧Wk w w'):=by
 refine enter func111 aa ntmps111 aa<|bg 2 aa<|e<|iL aa fun Z Y an ae ac=> ?_;have aw:((r,u):cJ×ag).1.strip.length=r.strip.length:=rfl;have av:((r,u):cJ×ag).1.kind=r.kind:=rfl;have aq:((r,u):cJ×ag).1.add.length=r.add.length:=rfl;have O:bO Y.heap Z (jZ (r,u)):=ac;refine au 6 aa<|p (cQ sH aa (aa) fun j ap=>O.bu j)<|au 1 aa<|e<|aM (WM r u s Y al ah ai am) aa ?_;rintro v9 ax ⟨rfl,V⟩;have E:=Wk.B V O;have I:=ae.md.trans V;refine aQ 10 aa<|cb aa (fun J=> ?_) fun J=> ?_;have G:ib r s=false :=by simpa using J
 exact aJ 8 aa<|f2 aa aa aa<|⟨by rw [AD G]; rfl,I⟩
 have G:ib r s=true :=by simpa using J
 have ao:=(vL G).1;refine aH 6 aa<|p (ld1 aa<|E.bu 0)<|aQ 3 aa<|cd aa (fun hk=> ?_) fun hk=> ?_;exact bz 1 aa<|dZ fun A=>aT [0,1,2,3] aa A<|cw 4 aa A (E.bu 3)<|aT [5] aa A<|bP 6 aa (dQ<|s.length - r.strip.length) A<|bP 7 aa (r6 u9 aa aa ab) A<|aT [8] aa A<|cw 9 aa A (E.bu 4)<|bP 10 aa (cc aa aa<|by simp only [dJ]; omega) A<|aT [11,12] aa A<|hn aj<|bc 3 aa<|f2 aa aa aa<|⟨by rw [E9 G ab]; rfl,I.trans A⟩
 exact bz 3 aa<|dZ fun C=>aT [0] aa C<|cw 1 aa C (E.bu 4)<|aT [2,3] aa C<|cw 4 aa C (E.bu 3)<|aT [5] aa C<|bP 6 aa (mS u9 aa aa ab) C<|bP 7 aa (cc aa aa<|by simp only [fP]; omega) C<|aT [8,9] aa C<|hn aj<|bc 2 aa<|f2 aa aa aa<|⟨by rw [E8 G ab]; rfl,I.trans C⟩
end Go.Hb
end
section
namespace Go.Hb
open Go.Hb.ki
def dS (d:bE):List ag:= [str d.eI,.int .i64 (d.eu:Nat),.int .i64 d.fst,.int .i64 d.snd,.int .i64 d.pre]
def fM (l:List bE):List ag:=l.flatMap dS
theorem oP {h:Array Obj} {b e:Nat} {L:List ag} (A:h[b]? =some (.cells L.toArray e (0,0))):bO h b L:=⟨e,A⟩
def Rn (F:aE) (n:Int):Prop :=n= -1∨(0≤n∧n < F.rules.length)
section
variable {F:aE} {xs:List bp} {e:Nat} {f s p:Int}
theorem HO (A:f= -1) (hp:p= -1):fu F xs e f s p= !sV F xs e 0:=by unfold fu; rw [if_pos A,decide_eq_false (fun h=>h hp)]; rfl
theorem HP (A:f= -1) (hp:p≠ -1):fu F xs e f s p=true :=by unfold fu; rw [if_pos A,decide_eq_true hp]; rfl
theorem BL (A:f≠ -1) (h:oX F (if s= -1 then f else s)=false):fu F xs e f s p=false :=by unfold fu; rw [if_neg A,if_pos h]
theorem BK (A:f≠ -1) (h:oX F (if s= -1 then f else s)=true) (hp:p= -1):fu F xs e f s p=true :=by unfold fu; rw [if_neg A,if_neg (by rw [h]; exact dM),decide_eq_true hp]; rfl
theorem qH (A:f≠ -1) (h:oX F (if s= -1 then f else s)=true) (hp:p≠ -1):fu F xs e f s p=(l5 F f && l5 F s && l5 F p):=by unfold fu; rw [if_neg A,if_neg (by rw [h]; exact dM),decide_eq_false hp]; rfl
theorem F1:l5 F (-1)=true :=by unfold l5; rw [decide_eq_true rfl]; rfl
theorem tX {k:Nat} {r:cJ} (A:F.rules[k]? =some r):l5 F k=r.eB:=by
 unfold l5;rw [decide_eq_false ab,kg,cH,A]; rfl
end
theorem IW (F:aE) (xs:List bp) (e:Int):jP F xs e 0=sV F xs e 0:=rfl
theorem Yo {α β:Type} {g:α→Option β} {l:List α} {i:Nat} (d:α) (h:i < l.length):(l.take<|i+1).filterMap g=(l.take i).filterMap g++(g<|l.getD i d).toList:=by
 rw [fN l i d h,MF];congr 1
structure Nq where
 ar:Option bF
 cr:Nat
 rn:List ag
 ap:Option bF
 cp:Nat
section
variable {w w':ak} {fp fp':Nat→Prop} {S0 mb tb l:Nat} {K:Nq} {F:aE} {e:Int} {word:Tx} {ps:List Nat}
end
theorem Qa {F:aE} {xs:List bp} {e:Nat} {word:Tx} {f s:Int} {p:Nat} (h:fu F xs e f s p=false):ni F xs e word f s p=none:=if_neg<|by rw [h]; exact dM
theorem P9 {F:aE} {xs:List bp} {e:Nat} {word:Tx} {f s:Int} {p:Nat} (h:eE (F.rules.getD p dF) word=none):ni F xs e word f s p=none:=by unfold ni; rw [h]; split <;> rfl
theorem Qb {F:aE} {xs:List bp} {e:Nat} {word v:Tx} {f s:Int} {p:Nat} (h:fu F xs e f s p=true) (h1:eE (F.rules.getD p dF) word=some v):ni F xs e word f s p=some ⟨v,e,f,s,p⟩:=by unfold ni; rw [if_pos h,h1]; rfl
theorem SL (B tb:Nat) (U:gE) (F:aE) (xs:List bp) (ar:Option bF) (cr:Nat) (rn:List ag) (word:Tx) (en:Nat) (f s pp:Int) (w:ak) (hT:fS w B tb U F xs) (aG:ec F xs) (aP:aB w.heap ar (iw<|F.rules.zip rn)) (ao:rn.length=F.rules.length) (al:Rn F f) (hs:Rn F s) (hp:Rn F pp):
 ba az 49 (a7 [bj tb,.slice ar F.rules.length cr,.agg (dS ⟨word,en,f,s,pp⟩).toArray]) w (fun v w'=>v= .bool (fu F xs en f s pp)∧Wk w w'):=by
 refine enter func49 aa ntmps49 aa<|bg 2 aa<|e<|iL aa fun aN av A aD aO=> ?_;have a0:=aD.size;have ac:=hT.wk aD.md;have A:bO av.heap aN [str word,ay en,.int .i64 f,.int .i64 s,.int .i64 pp]:=aO;have E:Wk w av:=aD.md;have O:=aP.wk aD.md;refine au 8 aa<|p (ld1 aa<|A.bu 2)<|au 2 aa<|gs (t:=11) aa (fun aI=> ?_) fun aI=> ?_;refine au 1 aa<|bI aa (ld1 aa<|A.bu 4)<|aQ 5 aa<|cd aa (fun bP=> ?_) fun bP=> ?_;refine aH 2 aa<|p mv<|au 1 aa<|p (ld1 aa<|A.bu 1)<|e<|aM (yI B tb U F xs (en:Nat) 0 av ac aG) aa ?_;rintro a1 a3 ⟨rfl,aS⟩;refine aC 7 aa<|aR aa ?_;have C:fu F xs en f s pp= !jP F xs en 0:=by rw [HO (by unfold Rn at al; omega) (by unfold Rn at hp; omega),IW]
 exact ⟨Eq.trans (b:=bR<|!jP F xs en 0) aa (congrArg bR C.symm),E.trans aS⟩;refine aH 3 aa<|p (ld1 aa<|A.bu 2)<|aQ 4 aa<|cd aa (fun aT=> ?_) fun h=>absurd aI h;refine aJ 8 aa<|aR aa ?_;have C:fu F xs en f s pp=true :=by exact HP (by unfold Rn at al; omega) ab
 exact ⟨Eq.trans (b:=bR<|true) aa (congrArg bR C.symm),E⟩;refine au 4 aa<|p bm<|au 6 aa<|p (ld1 aa<|A.bu 2)<|aQ 4 aa<|cd aa (fun h=>absurd h aI) fun aT=>aH 4 aa<|p (ld1 aa<|A.bu 3)<|au 2 aa<|gs (t:=29) aa (fun aK=> ?_) fun aK=> ?_;refine bI aa mv<|au 1 aa<|bI aa (ld1 aa<|A.bu 2)<|eg aa aa aa<|aM (GA B tb U F xs f av ac aG) aa ?_;rintro v33 a4 ⟨rfl,ax⟩;have ac:=ac.wk ax;have A:=Wk.B ax A;have E:=E.trans ax;have O:=O.wk ax;refine aQ 5 aa<|cb aa (fun G=> ?_) fun G=> ?_;refine bz 2 aa<|ct (congrArg bR G)<|aJ 8 aa<|aR aa ?_;have C:fu F xs en f s pp=false :=by exact BL ab<|by rw [if_pos (show s= -1 by unfold Rn at hs; omega)]; simpa using G
 exact ⟨Eq.trans (b:=bR<|false) aa (congrArg bR C.symm),E⟩;refine aH 2 aa<|p (ld1 aa<|A.bu 3)<|au 2 aa<|gs (t:=39) aa (fun h=>absurd h ab) fun aV=>au 6 aa<|p bm<|au 6 aa<|p (ld1 aa<|A.bu 4)<|aQ 4 aa<|cd aa (fun fz=> ?_) fun fz=> ?_;refine aJ 8 aa<|aR aa ?_;have C:fu F xs en f s pp=true :=by exact BK ab (by rw [if_pos (show s= -1 by unfold Rn at hs; omega)]; simpa using G)<|by unfold Rn at hp; omega
 exact ⟨Eq.trans (b:=bR<|true) aa (congrArg bR C.symm),E⟩;obtain ⟨J,rfl⟩:∃ m:Nat,pp=(m:Int):=⟨(pp).toNat,by unfold Rn at hp; omega⟩
 obtain ⟨ai,Y⟩:∃ r,F.rules[J]? =some r:=⟨_,bY<|by unfold Rn at hp; omega⟩
 have aq:(F.rules.zip rn)[J]? =some (ai,rn[J]'(by rw [ao]; exact (ff.1 Y).1)):=j7.2 ⟨Y,bY _⟩;have an:=tX Y;have aY:=(ff.1 Y).1;obtain ⟨I,rfl⟩:∃ m:Nat,f=(m:Int):=⟨(f).toNat,by unfold Rn at al; omega⟩
 obtain ⟨rf,V⟩:∃ r,F.rules[I]? =some r:=⟨_,bY<|by unfold Rn at al; omega⟩
 have ap:(F.rules.zip rn)[I]? =some (rf,rn[I]'(by rw [ao]; exact (ff.1 V).1)):=j7.2 ⟨V,bY _⟩;have am:=tX V;have aX:=(ff.1 V).1;have aj:=O;refine aH 5 aa<|p mv<|au 1 aa<|p (ld1 aa<|A.bu 4)<|p (a6 nk aa aa ab<|aB.ok (O)<|oA aq)<|au 1 aa<|p (ld1 aa<|fI (f:=eS) (m:=7) (fun _=>rfl) aj aq 2 aw)<|au 1 aa<|gb (t:=56) aa (fun ah=> ?_) fun ah=> ?_;refine bI aa mv<|au 1 aa<|bI aa (ld1 aa<|A.bu 2)<|bI aa (a6 nk aa aa ab<|aB.ok (O)<|oA ap)<|au 1 aa<|bI aa (ld1 aa<|fI (f:=eS) (m:=7) (fun _=>rfl) aj ap 2 aw)<|au 2 aa<|gb (t:=64) aa (fun ae=> ?_) fun ae=> ?_;refine au 1 aa<|bI aa (ld1 aa<|A.bu 3)<|au 2 aa<|gs (t:=68) aa (fun aW=> ?_) fun h=>absurd aK h;refine au 7 aa<|p (wo aa)<|p bm<|aC 3 aa<|aR aa ?_;have C:fu F xs en ((I:Nat):Int) s ((J:Nat):Int)=true :=by rw [qH ab (by rw [if_pos (show s= -1 by unfold Rn at hs; omega)]; simpa using G) ab,am,an,show s= -1 by (unfold Rn at hs; omega),F1,(show rf.eB=true from ae),(show ai.eB=true from ah)]; rfl
 exact ⟨Eq.trans (b:=bR<|true) aa (congrArg bR C.symm),E⟩;refine au 12 aa<|p bm<|aC 3 aa<|aR aa ?_;have C:fu F xs en ((I:Nat):Int) s ((J:Nat):Int)=false :=by rw [qH ab (by rw [if_pos (show s= -1 by unfold Rn at hs; omega)]; simpa using G) ab,am,(show rf.eB=false from ae)]; rfl
 exact ⟨Eq.trans (b:=bR<|false) aa (congrArg bR C.symm),E⟩;refine au 7 aa<|p mv<|au 12 aa<|p bm<|aC 3 aa<|aR aa ?_;have C:fu F xs en ((I:Nat):Int) s ((J:Nat):Int)=false :=by rw [qH ab (by rw [if_pos (show s= -1 by unfold Rn at hs; omega)]; simpa using G) ab,an,(show ai.eB=false from ah),uS]
 exact ⟨Eq.trans (b:=bR<|false) aa (congrArg bR C.symm),E⟩;refine au 6 aa<|p bm<|au 5 aa<|p (ld1 aa<|A.bu 3)<|au 2 aa<|gs (t:=39) aa (fun aV=> ?_) fun h=>absurd ab h;refine bI aa mv<|au 1 aa<|bI aa (ld1 aa<|A.bu 3)<|eg aa aa aa<|aM (GA B tb U F xs s av ac aG) aa ?_;rintro a2 a5 ⟨rfl,aA⟩;have ac:=ac.wk aA;have A:=Wk.B aA A;have E:=E.trans aA;have O:=O.wk aA;refine aQ 5 aa<|cb aa (fun G=> ?_) fun G=> ?_;refine aJ 8 aa<|aR aa ?_;have C:fu F xs en f s pp=false :=by exact BL ab<|by rw [if_neg (show ¬s= -1 by omega)]; simpa using G
 exact ⟨Eq.trans (b:=bR<|false) aa (congrArg bR C.symm),E⟩;refine aH 3 aa<|p (ld1 aa<|A.bu 4)<|aQ 4 aa<|cd aa (fun fz=> ?_) fun fz=> ?_;refine aJ 8 aa<|aR aa ?_;have C:fu F xs en f s pp=true :=by exact BK ab (by rw [if_neg (show ¬s= -1 by omega)]; simpa using G)<|by unfold Rn at hp; omega
 exact ⟨Eq.trans (b:=bR<|true) aa (congrArg bR C.symm),E⟩;obtain ⟨J,rfl⟩:∃ m:Nat,pp=(m:Int):=⟨(pp).toNat,by unfold Rn at hp; omega⟩
 obtain ⟨ai,Y⟩:∃ r,F.rules[J]? =some r:=⟨_,bY<|by unfold Rn at hp; omega⟩
 have aq:(F.rules.zip rn)[J]? =some (ai,rn[J]'(by rw [ao]; exact (ff.1 Y).1)):=j7.2 ⟨Y,bY _⟩;have an:=tX Y;have aY:=(ff.1 Y).1;obtain ⟨I,rfl⟩:∃ m:Nat,f=(m:Int):=⟨(f).toNat,by unfold Rn at al; omega⟩
 obtain ⟨rf,V⟩:∃ r,F.rules[I]? =some r:=⟨_,bY<|by unfold Rn at al; omega⟩
 have ap:(F.rules.zip rn)[I]? =some (rf,rn[I]'(by rw [ao]; exact (ff.1 V).1)):=j7.2 ⟨V,bY _⟩;have am:=tX V;have aX:=(ff.1 V).1;obtain ⟨Z,rfl⟩:∃ m:Nat,s=(m:Int):=⟨(s).toNat,by unfold Rn at hs; omega⟩
 obtain ⟨rs,aF⟩:∃ r,F.rules[Z]? =some r:=⟨_,bY<|by unfold Rn at hs; omega⟩
 have aL:(F.rules.zip rn)[Z]? =some (rs,rn[Z]'(by rw [ao]; exact (ff.1 aF).1)):=j7.2 ⟨aF,bY _⟩;have aU:=tX aF;have aZ:=(ff.1 aF).1;have aj:=O;refine aH 5 aa<|p mv<|au 1 aa<|p (ld1 aa<|A.bu 4)<|p (a6 nk aa aa ab<|aB.ok (O)<|oA aq)<|au 1 aa<|p (ld1 aa<|fI (f:=eS) (m:=7) (fun _=>rfl) aj aq 2 aw)<|au 1 aa<|gb (t:=56) aa (fun ah=> ?_) fun ah=> ?_;refine bI aa mv<|au 1 aa<|bI aa (ld1 aa<|A.bu 2)<|bI aa (a6 nk aa aa ab<|aB.ok (O)<|oA ap)<|au 1 aa<|bI aa (ld1 aa<|fI (f:=eS) (m:=7) (fun _=>rfl) aj ap 2 aw)<|au 2 aa<|gb (t:=64) aa (fun ae=> ?_) fun ae=> ?_;refine au 1 aa<|bI aa (ld1 aa<|A.bu 3)<|au 2 aa<|gs (t:=68) aa (fun h=>absurd h aK) fun aW=>bI aa mv<|au 1 aa<|bI aa (ld1 aa<|A.bu 3)<|bI aa (a6 nk aa aa ab<|aB.ok (O)<|oA aL)<|au 1 aa<|bI aa (ld1 aa<|fI (f:=eS) (m:=7) (fun _=>rfl) aj aL 2 aw)<|aC 6 aa<|aR aa ?_;have C:fu F xs en ((I:Nat):Int) ((Z:Nat):Int) ((J:Nat):Int)=rs.eB:=by rw [qH ab (by rw [if_neg (show ¬((Z:Nat):Int)= -1 by omega)]; simpa using G) ab,am,aU,an,(show rf.eB=true from ae),(show ai.eB=true from ah),Bool.true_and,DY]
 exact ⟨Eq.trans (b:=bR<|rs.eB) aa (congrArg bR C.symm),E⟩;refine au 12 aa<|p bm<|aC 3 aa<|aR aa ?_;have C:fu F xs en ((I:Nat):Int) ((Z:Nat):Int) ((J:Nat):Int)=false :=by rw [qH ab (by rw [if_neg (show ¬((Z:Nat):Int)= -1 by omega)]; simpa using G) ab,am,(show rf.eB=false from ae)]; rfl
 exact ⟨Eq.trans (b:=bR<|false) aa (congrArg bR C.symm),E⟩;refine au 7 aa<|p mv<|au 12 aa<|p bm<|aC 3 aa<|aR aa ?_;have C:fu F xs en ((I:Nat):Int) ((Z:Nat):Int) ((J:Nat):Int)=false :=by rw [qH ab (by rw [if_neg (show ¬((Z:Nat):Int)= -1 by omega)]; simpa using G) ab,an,(show ai.eB=false from ah),uS]
 exact ⟨Eq.trans (b:=bR<|false) aa (congrArg bR C.symm),E⟩
end Go.Hb
end
section
namespace Go.Hb
open Go.Hb.ki
theorem ox {F:aE} {xs:List bp} (h:ec F xs) {k:Nat} {r:cJ} (A:F.rules[k]? =some r):r.strip.length≤1048576∧r.add.length≤1048576∧r.cond.length≤1048576∧r.add.length≤32:=by
 have :=(h.jm A).2.2; unfold kh at this; omega
theorem Hu {α β:Type} {g:α→List β} {l:List α} {i:Nat} (d:α) (h:i < l.length):(l.take<|i+1).flatMap g=(l.take i).flatMap g++g (l.getD i d):=by
 rw [fN l i d h,nM,qf]
end Go.Hb
end
section
namespace Go.Hb
open Go.Hb.ki
noncomputable def qD (F:aE) (xs:List bp) (n:Int):List bE:=if 0≤n∧n < xs.length then jX F xs n.toNat else []
theorem A1 {F:aE} {xs:List bp} {k:Nat} (h:k < xs.length):qD F xs k=jX F xs k:=by unfold qD; rw [if_pos ab,kg]
theorem Gm {F:aE} {xs:List bp} {n:Int} (h:¬(0≤n∧n < xs.length)):qD F xs n= []:=if_neg h
noncomputable def kB (F:aE) (xs:List bp) (k:Nat):List bE:=(gT k).flatMap<|jX F xs
theorem NS (F:aE) (xs:List bp) (k:Nat):kB F xs (k+1)=kB F xs k++jX F xs k:=by unfold kB; rw [xA,nM,qf]
def Ao (W:ak) (b:Nat) (A:Option bF):Prop :=W.heap[b]? =some (.cells [.pointer A].toArray 24 (0,0))
end Go.Hb
end
section
namespace Go.Hb
open Go.Hb.ki
def r7 (L:List bE) (most:Int):List bE:=if most < 1 then [] else L.take most.toNat
theorem Ym {L:List bE} {most:Int} (h:most < 1):r7 L most= []:=if_pos h
end Go.Hb
end
section
namespace Go.Hb.tI
open Go.Hb.ki
def wY (dx:Bool) (q:Option Tx) (most limit:Int) (acc:List bE) (v:ag):List ag:= [.bool dx,.bool q.isSome,str (q.getD []),.int .i64 most,.int .i64 limit,.int .i64 (acc.length:Nat),.int .i64 (jw acc:Nat),v]
def Bd (acc:List bE):Prop :=acc.length≤jw acc∧jw acc≤acc.length*1000∧acc.length≤2000000
theorem Bd.nil:Bd []:=⟨gY _,gY _,gY _⟩
def Sd (d:bE):Prop :=1≤d.eI.length∧d.eI.length≤1000
def rU (q:Option Tx) (d:bE):Bool:=match q with
 | none=>true
 | some s=>decide (d.eI=s)
def jb (q:Option Tx) (most limit:Int) (a L:List bE):List bE:=om most limit a<|L.filter<|rU q
def rR (q:Option Tx) (most limit:Int) (a:List bE) (d:bE):List bE:=om most limit a<|[d].filter<|rU q
section
variable {q:Option Tx} {most limit:Int} {a L M:List bE} {d:bE}
theorem vQ:jb q most limit a (L++M)=jb q most limit (jb q most limit a L) M:=by unfold jb; rw [q9,T8]
theorem Iv (h:km most limit a=true) (L:List bE):jb q most limit a L=a:=yC h _
theorem I2 (h:rU q d=true):rR q most limit a d=sW most limit a d:=by unfold rR; rw [pD,if_pos h]; rfl
theorem U2 (h:rU q d=false):rR q most limit a d=a:=by unfold rR; rw [pD,if_neg (by rw [h]; exact dM)]; rfl
theorem U1 (h:km most limit a=true):rR q most limit a d=a:=yC h _
end
theorem U3 {most limit:Int} {acc:List bE} {d:bE} (h:km most limit acc=true):sW most limit acc d=acc:=if_pos h
theorem I3 {most limit:Int} {acc:List bE} {d:bE} (h:km most limit acc=false):sW most limit acc d=acc++ [d]:=if_neg<|by rw [h]; exact dM
theorem Se {most limit:Int} {acc:List bE} (h:km most limit acc=false):(acc.length:Int) < most∧(jw acc:Int)≤limit:=by
 unfold km at h; have :=of_decide_eq_false h; omega
theorem Fl (acc:List bE) (d:bE):jw (acc++ [d])=jw acc+d.eI.length:=by rw [Fj,Fk]
theorem Bd.met {most limit:Int} {acc:List bE} {d:bE} (h:Bd acc) (hm:most≤2000∨limit≤1048576) (hd:Sd d):Bd (sW most limit acc d):=by
 by_cases A:km most limit acc=true
 · rw [U3 A]; exact h
 · rw [I3 (by simpa using A)];have :=Se<|by simpa using A
   unfold Bd Sd at*;rw [Fl,bG,fg];omega
structure iV (w:ak) (fp:Nat→Prop) (S0 xb:Nat) (dx:Bool) (q:Option Tx) (most limit:Int) (acc:List bE):Prop where
 lo:S0≤xb
 ex:∃ v,w.heap[xb]? =some (.cells (wY dx q most limit acc v).toArray 140 (0,0))∧(if dx=true then bo w S0 74 5 v acc.length (fM acc) else v= .slice none 0 0)∧∀ k,fp k↔(k=xb∨v.ownBlock=some k)
 bd:Bd acc
structure Tw (fp:Nat→Prop) (w:ak) (fp':Nat→Prop) (w':ak):Prop where
 md:Md fp w w'
 sub:∀ k,fp' k→fp k∨w.heap.size≤k
section
variable {w w' w'':ak} {fp fp' fp'':Nat→Prop} {S0 xb:Nat} {dx:Bool} {q:Option Tx} {most limit:Int} {acc:List bE}
theorem Tw.refl (fp:Nat→Prop) (w:ak):Tw fp w fp w:=⟨Md.refl _ _,fun _ h=> .inl h⟩
theorem Tw.trans (h:Tw fp w fp' w') (A:Tw fp' w' fp'' w''):Tw fp w fp'' w'':=
 ⟨h.md.trans' A.md fun k hk C=>(h.sub k C).elim id (fun h2=>by omega),fun k hk=>(A.sub k hk).elim (h.sub k) fun h2=> .inr<|e7 h.md.size h2⟩
theorem Tw.wk (h:Wk w w'):Tw fp w fp w':=⟨h.mono fun _ _ h=>h.elim,fun _ h=> .inl h⟩
theorem iV.wk (h:iV w fp S0 xb dx q most limit acc) (hm:Wk w w'):iV w' fp S0 xb dx q most limit acc:=by
 obtain ⟨v,h1,h2,h3⟩:=h.ex;refine ⟨h.lo,⟨v,Wk.bl hm h1,?_,h3⟩,h.bd⟩;cases dx with
 | true =>rw [if_pos rfl] at h2 ⊢; exact aU h2 hm
 | false =>exact h2
theorem iV.tf (h:iV w fp S0 xb dx q most limit acc):TF w [142,76] fp:=by
 obtain ⟨v,h1,h2,h3⟩:=h.ex;intro k hk;rcases (h3 k).1 hk with rfl | hk
 · rw [dC h1]; decide
 · cases dx with
   | true =>rw [if_pos rfl] at h2; rw [Dx h2 hk]; decide
   | false =>rw [if_neg aw] at h2; rw [h2] at hk; cases hk
theorem iV.lt (h:iV w fp S0 xb dx q most limit acc):∀ k,fp k→k < w.heap.size:=by
 obtain ⟨v,h1,h2,h3⟩:=h.ex;intro k hk;rcases (h3 k).1 hk with rfl | hk
 · exact (dD.1 h1).1
 · cases dx with
   | true =>rw [if_pos rfl] at h2; exact (dH h2 hk).2
   | false =>rw [if_neg aw] at h2; rw [h2] at hk; cases hk
theorem iV.I0 (h:iV w fp S0 xb dx q most limit acc) {b:Nat} (hm:Md (fun q=>q=b) w w') (A:¬fp b):iV w' fp S0 xb dx q most limit acc:=by
 obtain ⟨v,h1,h2,h3⟩:=h.ex;refine ⟨h.lo,⟨v,hm.bl h1 (fun h4=>A<|(h3 b).2<|.inl h4.symm),?_,h3⟩,h.bd⟩;cases dx with
 | true =>rw [if_pos rfl] at h2 ⊢; exact da h2 hm fun k hk h4=>A<|by subst h4; exact (h3 _).2<|.inr hk
 | false =>exact h2
theorem iV.aV (h:iV w fp S0 xb dx q most limit acc):Hb.aV w.heap xb 0=some (.bool dx)∧Hb.aV w.heap xb 1=some (.bool q.isSome)∧Hb.aV w.heap xb 2=some (str<|q.getD [])∧Hb.aV w.heap xb 3=some (.int .i64 most)∧Hb.aV w.heap xb 4=some (.int .i64 limit)∧Hb.aV w.heap xb 5=some (.int .i64 (acc.length:Nat))∧Hb.aV w.heap xb 6=some (.int .i64 (jw acc:Nat)):=by
 obtain ⟨v,h1,_⟩:=h.ex;exact ⟨(a8 h1).trans aa,(a8 h1).trans aa,(a8 h1).trans aa,(a8 h1).trans aa,(a8 h1).trans aa,(a8 h1).trans aa,(a8 h1).trans aa⟩
theorem vP {B tb fb:Nat} {V:eo} {ve:ag} {F:aE} {xs:List bp} (A:ga w B tb fb V ve F xs) (h:iV w fp S0 xb dx q most limit acc) (hm:Md fp w w'):ga w' B tb fb V ve F xs:=
 ⟨hm.iK h.tf A.cells aw,A.fl.md hm h.tf aw,A.en.md hm h.tf aw⟩
theorem SO {B tb fb:Nat} {V:eo} {ve:ag} {F:aE} {xs:List bp} (A:ga w B tb fb V ve F xs) {b:Nat} {cs:Array ag} {z:Nat×Nat} (C:w.heap[b]? =some (.cells cs 74 z)) (hm:Md (fun q=>q=b) w w'):ga w' B tb fb V ve F xs:=
 ⟨hm.iK (TF.eq (L:= [76]) (dC C) aw) A.cells aw,A.fl.md hm (TF.eq (L:= [76]) (dC C) aw) aw,A.en.md hm (TF.eq (L:= [76]) (dC C) aw) aw⟩
end
theorem CU (B tb fb:Nat) (V:eo) (ve:ag) (F:aE) (xs:List bp) (n:Int) (w:ak) (E:ga w B tb fb V ve F xs) (Y:ec F xs) (hn:Rn F n):
 ba az 226 (a7 [bj tb,.int .i64 n]) w (fun v w'=>v= .bool (l5 F n)∧Wk w w'):=by
 refine enter func226 aa ntmps226 aa<|bg 7 aa<|p mv<|au 2 aa<|gs (t:=7) aa (fun uh=> ?_) fun uh=> ?_;exact au 12 aa<|p bm<|aC 3 aa<|aR aa<|⟨by rw [uh,F1]; rfl,Md.refl _ _⟩
 obtain ⟨k,rfl⟩:∃ k:Nat,n=(k:Int):=⟨n.toNat,by unfold Rn at hn; omega⟩
 obtain ⟨r,A⟩:∃ r,F.rules[k]? =some r:=⟨_,bY<|by unfold Rn at hn; omega⟩
 obtain ⟨J,O,a,c,I,C,G,Z⟩:=E.jm A;have ac:=(ff.1 A).1;exact bI aa mv<|au 2 aa<|bI aa (ld1 aa<|(a8 E.cells).trans aa)<|au 2 aa<|bI aa (ld1 aa<|I)<|bI aa mv<|bI aa (a6 oY aa aa ab<|aB.ok (C)<|o4 G)<|au 1 aa<|bI aa (ld1 aa<|fI (f:=jZ) (m:=8) (fun _=>rfl) C G 2 aw)<|aC 5 aa<|aR aa<|⟨by rw [tX A]; rfl,Md.refl _ _⟩
theorem J1 (B tb fb:Nat) (V:eo) (ve:ag) (F:aE) (xs:List bp) (word:Tx) (en:Nat) (f s pp:Int) (w:ak) (Y:ga w B tb fb V ve F xs) (O:ec F xs) (aI:Rn F f) (hs:Rn F s) (hp:Rn F pp):
 ba az 179 (a7 [bj tb,.agg (dS ⟨word,en,f,s,pp⟩).toArray]) w (fun v w'=>v= .bool (fu F xs en f s pp)∧Wk w w'):=by
 refine enter func179 aa ntmps179 aa<|bg 2 aa<|e<|iL aa fun aj ap E am aB=> ?_;have aO:=am.size;have aF:=Y.wk am.md;have E:bO ap.heap aj [str word,ay en,.int .i64 f,.int .i64 s,.int .i64 pp]:=aB;have ae:Wk w ap:=am.md;refine au 7 aa<|p (ld1 aa<|E.bu 2)<|aQ 3 aa<|cd aa (fun I=> ?_) fun I=> ?_;refine aH 2 aa<|p mv<|au 1 aa<|p (ld1 aa<|E.bu 1)<|e<|aM (J2 B tb fb V ve F xs (en:Nat) 0 ap aF O) aa ?_;rintro v17 aU ⟨rfl,al⟩;have E:=Wk.B al E;refine au 6 aa<|p (ld1 aa<|E.bu 4)<|au 2 aa<|gs (t:=21) aa (fun fz=> ?_) fun fz=> ?_;refine au 3 aa<|p bm<|aC 4 aa<|aR aa ?_;have C:fu F xs en f s pp=true :=HP I fz;exact ⟨Eq.trans (b:=bR true) aa (congrArg bR C.symm),ae.trans al⟩;refine aC 8 aa<|aR aa ?_;have C:fu F xs en f s pp= !jP F xs en 0:=by rw [HO I (jG.1 fz),IW]
 exact ⟨Eq.trans (b:=bR<|!jP F xs en 0) aa (congrArg bR C.symm),ae.trans al⟩;refine aH 5 aa<|p (ld1 aa<|E.bu 2)<|aQ 3 aa ?_;refine ei (fun aA ai=> ∃ (ah:Int),(ah=if s= -1 then f else s)∧(Wk w ai)∧(bO ai.heap aj [str word,ay en,.int .i64 f,.int .i64 s,.int .i64 pp])∧(Sl aA [(0,bj tb),(3,bj aj),(6,.int .i64 ah)])) ?_ ?_;refine bg 3 aa<|p (ld1 aa<|E.bu 3)<|aQ 3 aa<|cd aa (fun ac=> ?_) fun ac=> ?_;exact aH 2 aa<|p (ld1 aa<|E.bu 3)<|aC 2 aa<|tn<|⟨s,(by rw [if_neg ac]),ae,E,aa⟩
 exact aJ 1 aa<|tn<|⟨f,(by rw [if_pos (jG.1 ac)]),ae,E,aa⟩
 rintro aA ai ⟨ah,Z,ax,aG,ac⟩;refine bA ac<|aH 4 aa<|e<|aM (WO B tb fb V ve F xs ah ai (Y.wk ax) O) aa ?_;rintro aP aK ⟨rfl,aq⟩;have G:=Wk.B aq aG;have A:=ax.trans aq;refine aQ 10 aa<|cb aa (fun J=> ?_) fun J=> ?_;refine aJ 7 aa<|aR aa ?_;have C:fu F xs en f s pp=false :=BL I<|by rw [← Z]; simpa using J
 exact ⟨Eq.trans (b:=bR false) aa (congrArg bR C.symm),A⟩;refine aH 6 aa<|p (ld1 aa<|G.bu 4)<|aQ 3 aa<|cd aa (fun ab=> ?_) fun ab=> ?_;refine aJ 7 aa<|aR aa ?_;have C:fu F xs en f s pp=true :=BK I (by rw [← Z]; simpa using J) ab;exact ⟨Eq.trans (b:=bR true) aa (congrArg bR C.symm),A⟩;refine aH 6 aa<|p (ld1 aa<|G.bu 2)<|e<|aM (CU B tb fb V ve F xs f aK (Y.wk A) O aI) aa ?_;rintro aS aL ⟨rfl,av⟩;have G:=Wk.B av G;have A:=A.trans av;refine au 7 aa<|p (ld1 aa<|G.bu 3)<|e<|aM (CU B tb fb V ve F xs s aL (Y.wk A) O hs) aa ?_;rintro aT aN ⟨rfl,aw⟩;have G:=Wk.B aw G;have A:=A.trans aw;refine au 7 aa<|p (ld1 aa<|G.bu 4)<|e<|aM (CU B tb fb V ve F xs pp aN (Y.wk A) O hp) aa ?_;rintro v51 aV ⟨rfl,aD⟩;have A:=A.trans aD;refine au 7 aa<|gb (t:=53) aa (fun an=> ?_) fun an=> ?_;refine au 3 aa<|gb (t:=56) aa (fun ao=> ?_) fun ao=> ?_;refine aC 6 aa<|aR aa ?_;have C:fu F xs en f s pp=l5 F pp:=by rw [qH I (by rw [← Z]; simpa using J) ab,an,(show l5 F s=true by simpa using ao)]; simp
 exact ⟨Eq.trans (b:=bR<|l5 F pp) aa (congrArg bR C.symm),A⟩;refine au 2 aa<|p bm<|aC 3 aa<|aR aa ?_;have C:fu F xs en f s pp=false :=by rw [qH I (by rw [← Z]; simpa using J) ab,(show l5 F s=false by simpa using ao)]; simp
 exact ⟨Eq.trans (b:=bR false) aa (congrArg bR C.symm),A⟩;refine au 2 aa<|p mv<|au 2 aa<|p bm<|aC 3 aa<|aR aa ?_;have C:fu F xs en f s pp=false :=by rw [qH I (by rw [← Z]; simpa using J) ab,an]; rfl
 exact ⟨Eq.trans (b:=bR false) aa (congrArg bR C.symm),A⟩
theorem Sf (S0 xb:Nat) (dx:Bool) (q:Option Tx) (most limit:Int) (acc:List bE) (fp:Nat→Prop) (w:ak) (O:iV w fp S0 xb dx q most limit acc):
 ba az 227 (a7 [bj xb]) w (fun v w'=>v= .bool (km most limit acc)∧Wk w w'):=by
 obtain ⟨V,c1,c2,c3,G,I,J⟩:=O.aV;refine enter func227 aa ntmps227 aa<|bq 6 aa<|dZ fun A=>aT [0,1,2] aa A<|cw 3 aa A (I)<|aT [4,5,6] aa A<|cw 7 aa A (c3)<|aT [8,9] aa A<|ji (t:=12) aa (fun hm=> ?_) fun hm=> ?_;refine aT [10,11,12,13,14,15,16,17,18,19] aa A<|bP 20 aa (bm) A<|hn aj<|bc 2 aa<|aR aa ?_;have E:km most limit acc=true :=decide_eq_true<|Or.inl hm;exact ⟨Eq.trans (b:=bR true) aa (congrArg bR E.symm),A⟩;refine aT [10,11,12] aa A<|cB 13 aa (fun w' C=>ld1 aa<|Wk.aV C<|J) A<|aT [14,15,16] aa A<|cB 17 aa (fun w' C=>ld1 aa<|Wk.aV C<|G) A<|aT [18,19,20] aa A<|hn aj<|bc 2 aa<|aR aa ?_;have E:km most limit acc=decide ((jw acc:Int) > limit):=by unfold km; rw [decide_eq_decide]; omega
 exact ⟨Eq.trans (b:=bR<|decide ((jw acc:Int) > limit)) aa (congrArg bR E.symm),A⟩
theorem I4 (S0 xb:Nat) (dx:Bool) (q:Option Tx) (most limit:Int) (acc:List bE) (fp:Nat→Prop) (d:bE) (w:ak) (ae:iV w fp S0 xb dx q most limit acc) (hd:Sd d) (bx:most≤2000∨limit≤1048576):
 ba az 180 (a7 [bj xb,.agg (dS d).toArray]) w (fun v w'=>v= .tuple #[]∧∃ fp',iV w' fp' S0 xb dx q most limit (rR q most limit acc d)∧Tw fp w fp' w'):=by
 refine enter func180 aa ntmps180 aa<|bg 2 aa<|e<|iL aa fun E a6 aS ac bh=> ?_;have bQ:=ac.size;have aS:bO a6.heap E (dS d):=bh;have aR:=ae.wk ac.md;have bw:=ae.lt;have a0:¬fp E:=fun h=>by have :=bw E h; omega
 refine au 4 aa<|p mv<|e<|aM (Sf S0 xb dx q most limit acc fp a6 aR) aa ?_;rintro v6 bF ⟨rfl,Z⟩;have ag:=aR.wk Z;obtain ⟨bI,c1,c2,c3,bJ,bK,bL⟩:=ag.aV;have aX:=Wk.B Z aS;refine aQ 3 aa ?_;refine ei (fun bf al=>(km most limit acc=false)∧(rU q d=true)∧(Wk bF al)∧(Sl bf [(0,bj xb),(3,bj E)])) ?_ ?_;refine bq 1 aa<|dZ fun A=>aT [0,1] aa A<|yz (t:=8) aa (fun Y=> ?_) fun Y=> ?_;exact aT [2,3,4,5,6,7,8,9,10,11,12,13,14,15] aa A<|hn aj<|bc 3 aa<|tr<|rG aa<|⟨aa,fp,by rw [U1 Y]; exact ag.wk A,Tw.wk<|(ac.md.trans Z).trans A⟩
 refine cB 2 aa (fun _ _=>mv) A<|aT [3,4] aa A<|cB 5 aa (fun w' G=>ld1 aa<|Wk.aV G<|c1) A<|aT [6] aa A<|yz (t:=13) aa (fun has=> ?_) fun has=> ?_;obtain ⟨sq,rfl⟩:∃ s,q=some s:=by
  cases q with
  | none=>cases has
  | some s=>exact ⟨s,rfl⟩
 refine aT [7] aa A<|cB 8 aa (fun w' G=>ld1 aa<|Wk.aV G<|aX.bu 0) A<|cB 9 aa (fun _ _=>mv) A<|aT [10,11] aa A<|cB 12 aa (fun w' G=>ld1 aa<|Wk.aV G<|c2) A<|aT [13,14,15] aa A<|hn aj<|dz 1 aa<|cd aa (fun aC=> ?_) fun aC=> ?_;exact aJ 1 aa<|tr<|rG aa<|⟨aa,fp,by rw [U2 (show rU (some sq) d=false from decide_eq_false aC)]; exact ag.wk A,Tw.wk<|(ac.md.trans Z).trans A⟩
 exact aJ 1 aa<|tn<|⟨Y,(decide_eq_true<|jG.1 aC),A,aa⟩
 obtain rfl :q=none:=by
  cases q with
  | none=>rfl
  | some s=>cases has
 exact aT [7,8,9,10,11,12,13,14] aa A<|bP 15 aa (rX aa) A<|hn aj<|bc 3 aa<|tn<|⟨Y,aa,A,aa⟩
 rintro bf al ⟨Y,a4,av,bB⟩;refine bA bB<|bz 1 aa ?_;have ao:rR q most limit acc d=acc++ [d]:=(I2 a4).trans<|I3 Y;have aY:=ag.bd;have aA:Bd (rR q most limit acc d):=by rw [I2 a4]; exact aY.met bx hd
 have aD:Bd (acc++ [d]):=ao ▸ aA;unfold Bd at aY aD;unfold Sd at hd;obtain ⟨v,aq,aE,J⟩:=(ag.wk av).ex;have a1:E≠xb:=fun h=>a0<|(J E).2<|.inl h;have aF:=Fl acc d;rw [aF] at aD;simp only [bG,fg] at aD;have bs:=Wk.B av aX;refine aH 5 aa<|p (ld1 aa<|(a8 aq).trans aa)<|p (bC<|acc.length+1)<|au 2 aa<|e<|dd gM aa aa (v:= .int .i64 ((acc.length+1:Nat):Int)) aa aq (by show 5 < 8; omega) fun bD aK bi=> ?_;have a5:bD.heap[xb]? =some (.cells [.bool dx,.bool q.isSome,str (q.getD []),.int .i64 most,.int .i64 limit,.int .i64 ((acc.length+1:Nat):Int),ay (jw acc),v].toArray 140 (0,0)):=bi;have aW:=Md.B aK bs fun h=>a1 h;refine aQ 3 aa<|l9 11 fun I=>bU [0,1,2,3] aa I<|ma 4 aa I ((a8 a5).trans aa)<|bU [5] aa I<|ma 6 aa I (aW.bu 0)<|bU [7] aa I<|cT 8 aa (bC<|jw acc+d.eI.length) I<|bU [9,10] aa I<|dK 11 aa aj aj<|dd gM aa aa (v:= .int .i64 ((jw acc+d.eI.length:Nat):Int)) aa a5 (by show 6 < 8; omega) fun ai aL bk=> ?_;have ah:ai.heap[xb]? =some (.cells [.bool dx,.bool q.isSome,str (q.getD []),.int .i64 most,.int .i64 limit,.int .i64 ((acc.length+1:Nat):Int),.int .i64 ((jw acc+d.eI.length:Nat):Int),v].toArray 140 (0,0)):=bk;have br:=Md.B aL aW fun h=>a1 h;have an:Md (fun q=>q=xb) al ai:=aK.trans' (iQ aL) fun q C h=>h;have aI:Wk w al:=(ac.md.trans Z).trans av;have bo:TF al [142] (fun q=>q=xb):=TF.eq (dC aq) aw;refine eQ aj<|dq 6 aa<|p (ld1 aa<|(a8 ah).trans aa)<|aQ 2 aa<|cb aa (fun hk=> ?_) fun hk=> ?_;rw [if_pos hk] at aE;have a2:=cj aE an bo aw;subst hk;have V:(fun w'=>Hb.aV w'.heap xb 7=some v∧bO w'.heap E (dS d)) ai.drew:=⟨(a8 ah).trans rfl,br⟩
 refine gO (fun w'=>Hb.aV w'.heap xb 7=some v∧bO w'.heap E (dS d)) 10 aa wide V<|bU [0,1,2,3] aa V<|eW 4 aa (fun w' G=>ld1 aa<|G.1) V<|eW 5 aa (fun w' G=>cQ vu aa (aa) fun j bN=>G.2.bu j) V<|gN 6 aa aj<|lf KB aa aa aa fun bH a9 bM am bm=> ?_;have bR:=am.size;have O:Wk ai a9:=((Md.refl (fun _=>False) ai).drew).trans am.md;have aO:(fun w'=>Hb.aV w'.heap xb 7=some v∧bO w'.heap E (dS d)) a9:=⟨Wk.aV am.md V.1,Wk.B am.md V.2⟩
 refine ⟨aO,?_⟩;refine gN 7 aa aj<|ap KB (aU a2 O) aa (by have :=ae.lo; have :=(dD.1 aq).1; have :=an.size; have :=O.size; omega) aa (aB.dT bm) (aa) (aa) ab ab fun v53 bb a3 ax bS bt=> ?_;have aG:=ax.bl (Wk.bl O ah) fun h=>dO (aU a2 O) (Wk.bl O ah) aw h;have aP:(fun w'=>Hb.aV w'.heap xb 7=some v∧bO w'.heap E (dS d)) bb:=⟨(a8 aG).trans rfl,Md.B ax aO.2 fun h=>a0<|(J E).2<|.inr h⟩
 refine ⟨aP,?_⟩;refine bU [8,9] aa aP<|dK 10 aa aj aj<|dd Qt aa aa (v:=v53) (e9 a3) aG (by show 7 < 8; omega) fun bT aN bn=> ?_;have bp:TF bb [142] (fun q=>q=xb):=TF.eq (dC aG) aw;refine eQ aj<|f0 aa ?_;refine ⟨aa,fun q=>q=xb∨v53.ownBlock=some q,⟨ae.lo,⟨v53,?_,?_,fun _=>Iff.rfl⟩,aA⟩,?_⟩;rw [ao];have h1:wY true q most limit (acc++ [d]) v53= [.bool true,.bool q.isSome,str (q.getD []),.int .i64 most,.int .i64 limit,.int .i64 ((acc.length+1:Nat):Int),.int .i64 ((jw acc+d.eI.length:Nat):Int),v53]:=by unfold wY; rw [aF,bG]; rfl
 rw [h1]; exact bn;rw [if_pos rfl,ao,bG,show fM (acc++ [d])=fM acc++dS d from by unfold fM; rw [nM,qf]];exact cj a3 aN bp aw;have aZ:∀ q,q=xb→fp q:=fun q C=>(J q).2<|.inl C;refine Tw.trans (Tw.wk aI)<|Tw.trans ⟨an.mono (fun q _ C=>aZ q C),fun q C=> .inl C⟩<|Tw.trans (Tw.wk O)<|Tw.trans (fp':=fun q=>q=xb∨v53.ownBlock=some q) ⟨ax.mono (fun q _ C=>(J q).2<|.inr C),fun q C=>C.elim (fun h=> .inl<|aZ q h) fun h=>(bt q h).imp (fun h=>(J q).2<|.inr h) id⟩ ⟨aN.mono (fun q _ C=> .inl C),fun q C=> .inl C⟩;refine aJ 1 aa<|f0 aa ?_;have bv:dx=false :=by simpa using hk
 subst bv;refine ⟨aa,fp,⟨ae.lo,⟨v,?_,?_,J⟩,aA⟩,?_⟩;rw [ao];have h1:wY false q most limit (acc++ [d]) v= [.bool false,.bool q.isSome,str (q.getD []),.int .i64 most,.int .i64 limit,.int .i64 ((acc.length+1:Nat):Int),.int .i64 ((jw acc+d.eI.length:Nat):Int),v]:=by unfold wY; rw [aF,bG]; rfl
 rw [h1]; exact ah;exact aE;exact Tw.trans (Tw.wk aI) ⟨an.mono (fun q _ C=>(J q).2<|.inl C),fun q C=> .inl C⟩
end Go.Hb.tI
end
section
namespace Go.Hb
open Go.Hb.ki Go.Hb.tI
section
variable {w w':ak} {fp fp':Nat→Prop} {S0 xb:Nat} {dx:Bool} {q:Option Tx} {most limit:Int} {acc:List bE}
theorem sZ {B n:Nat} {v:ag} {xs:List ag} (A:bo w B 3 1 v n xs) (h:iV w fp S0 xb dx q most limit acc) (hm:Tw fp w fp' w'):bo w' B 3 1 v n xs:=cj A hm.md h.tf aw
theorem Jg {b:Nat} (h:Tw fp w fp' w') (hn:¬fp b) (A:b < w.heap.size):¬fp' b:=fun h2=>(h.sub b h2).elim hn fun h3=>by omega
end
theorem Ix {q:Option Tx} {most limit:Int} {acc A:List bE} {α:Type} {g:α→Option bE} {l:List α} {i:Nat} (h:km most limit (jb q most limit acc<|A++(l.take i).filterMap g)=true):jb q most limit acc (A++l.filterMap g)=jb q most limit acc (A++(l.take i).filterMap g):=by
 conv =>lhs; rw [← Aj i l,MF,← eX,vQ,Iv h]
theorem B5 {q:Option Tx} {most limit:Int} {acc A:List bE} {α:Type} {g:α→List bE} {l:List α} {i:Nat} (h:km most limit (jb q most limit acc<|A++(l.take i).flatMap g)=true):jb q most limit acc (A++l.flatMap g)=jb q most limit acc (A++(l.take i).flatMap g):=by
 conv =>lhs; rw [← Aj i l,nM,← eX,vQ,Iv h]
theorem BC {most limit:Int} {a:List bE} (h:¬(jw a:Int)≤limit):km most limit a=true :=decide_eq_true<|Or.inr ab
theorem BD {most limit:Int} {a:List bE} (h:¬(a.length:Int) < most):km most limit a=true :=decide_eq_true<|Or.inl ab
theorem Iw {q:Option Tx} {most limit:Int} {acc A C:List bE} {α:Type} {g:α→List bE} {l:List α} {i:Nat} (h:km most limit (jb q most limit acc<|A++(C++(l.take i).flatMap g))=true):jb q most limit acc (A++(C++l.flatMap g))=jb q most limit acc (A++(C++(l.take i).flatMap g)):=by
 rw [← eX] at h ⊢;rw [B5 h,eX]
theorem QL {F:aE} {xs:List bp} (A:ec F xs) (n:Int):∀ d∈qD F xs n,1≤d.eI.length∧d.eI.length≤200:=by
 intro d hd;unfold qD at hd;split at hd
 · rename_i h;obtain ⟨k,rfl⟩:∃ k:Nat,n=(k:Int):=⟨n.toNat,ab⟩
   have C:xs[k]? =some xs[k]:=bY ab;have E:xs.getD k ([],[])=xs[k]:=by rw [cH,C]; rfl
   rw [kg] at hd;have h1:=A.ne _<|gB C;have h2:=(A.vG _<|gB C).1;have :=QN (fun q G=>(A.fs.2 q G).2) (by rw [E]; exact h1) d hd;rw [E] at this;omega
 · cases hd
set_option maxHeartbeats 4000000 in
theorem DM (B tb fb:Nat) (V:eo) (ve:ag) (F:aE) (xs:List bp) (S0 xb:Nat) (dx:Bool) (q:Option Tx) (most limit:Int) (acc:List bE) (fp:Nat→Prop) (word cC:Tx) (en:Nat) (f s cA:Int) (ap:Option bF) (cp bR:Nat) (w:ak) (bn:ga w B tb fb V ve F xs) (ae:ec F xs) (am:iV w fp S0 xb dx q most limit acc) (bG:most≤2000∨limit≤1048576) (cq:bo w bR 3 1 (.slice ap (bh F (flagsOf xs en) 1).length cp) (bh F (flagsOf xs en) 1).length ((bh F (flagsOf xs en) 1).map bJ)) (bD:Rn F f) (hs:Rn F s) (cz:1≤word.length∧word.length≤500):
 ba az 109 (a7 [bj tb,bj xb,str word,.agg (dS ⟨cC,en,f,s,cA⟩).toArray,.slice ap (bh F (flagsOf xs en) 1).length cp]) w (fun v w'=>v= .tuple #[]∧∃ fp',iV w' fp' S0 xb dx q most limit (jb q most limit acc<|iq F xs en word f s)∧Tw fp w fp' w'):=by
 have ck:=am.lt;have cM:=ur F (flagsOf xs (en:Int)) 1;have cN:=ae.len;refine enter func109 aa ntmps109 aa<|bg 2 aa<|e<|nU aa fun G cV cL bs b1=> ?_;have cO:=bs.size;refine au 5 aa<|e<|dd gM aa aa (v:= .int .i64<|-1) aa b1 (by show 4 < 5; omega) fun cT b4 bZ=>au 4 aa<|p mv<|au 1 aa<|e<|dd l7 aa aa (v:=str word) aa bZ (by simp only [List.length_set]; show 0 < 5; omega) fun a3 b5 b0=> ?_;have aS:a3.heap[G]? =some (.cells (dS ⟨word,en,f,s,-1⟩).toArray 74 (0,0)):=b0;have bi:Wk w a3:=(bs.md.trans' b4 fun q aZ h=>by omega).trans' b5 fun q aZ h=>by omega
 have aY:¬fp G:=fun h=>by have :=ck G h; omega
 refine au 4 aa<|p mv<|p (cQ vu aa (aa) fun j ac=>(oP aS).bu j)<|e<|aM (J1 B tb fb V ve F xs word en f s (-1) a3 (bn.wk bi) ae bD hs<|.inl aa) aa ?_;rintro cR cD ⟨rfl,bf⟩;have aA:=bi.trans bf;have bt:=am.wk aA;have an:=Wk.bl bf aS;refine aQ 3 aa ?_;refine ei (fun bO av=> ∃ (Z:Nat→Prop),(iV av Z S0 xb dx q most limit<|jb q most limit acc<|nY F xs en word f s)∧(Tw fp w Z av)∧(av.heap[G]? =some (.cells (dS ⟨word,en,f,s,-1⟩).toArray 74 (0,0)))∧(¬Z G)∧(Sl bO [(0,bj tb),(1,bj xb),(2,str word),(4,.slice ap (bh F (flagsOf xs en) 1).length cp),(8,bj G)])) ?_ ?_;refine bq 5 aa<|cb aa (fun aU=> ?_) fun aU=> ?_;have aO:nY F xs en word f s= [⟨word,en,f,s,-1⟩]:=if_pos aU;refine aH 1 aa<|p mv<|p (cQ vu aa (aa) fun j ac=>(oP an).bu j)<|e<|aM (I4 S0 xb dx q most limit acc fp ⟨word,en,f,s,-1⟩ cD bt ⟨cz.1,by show word.length≤1000; omega⟩ bG) aa ?_;rintro v23 cU ⟨rfl,bX,ca,aK⟩;have ci:=aK.md.bl an aY;have cn:=Jg aK aY (dD.1 an).1;exact aC 1 aa<|tn<|⟨bX,(by rw [aO]; exact ca),((Tw.wk aA).trans aK),ci,cn,aa⟩
 have aO:nY F xs en word f s= []:=if_neg<|by rw [aU]; exact dM
 exact aJ 1 aa<|tn<|⟨fp,(by rw [aO]; exact bt),(Tw.wk aA),an,aY,aa⟩
 rintro bO av ⟨Z,cc,b7,cj,co,ct⟩;refine bA ct<|bz 6 aa<|lp (fun a5 bQ aw=> ∃ (i:Nat) (C:Nat→Prop) (aq:Tx) (pp:Int),(i≤(bh F (flagsOf xs en) 1).length)∧(iV aw C S0 xb dx q most limit<|jb q most limit acc<|nY F xs en word f s++((bh F (flagsOf xs en) 1).take i).filterMap (ni F xs en word f s))∧(Tw fp w C aw)∧(aw.heap[G]? =some (.cells (dS ⟨aq,en,f,s,pp⟩).toArray 74 (0,0)))∧(¬C G)∧(Sl bQ [(0,bj tb),(1,bj xb),(2,str word),(4,.slice ap (bh F (flagsOf xs en) 1).length cp),(8,bj G),(11,ay i)])∧((bh F (flagsOf xs en) 1).length - i=a5)) _ ⟨0,Z,word,-1,ab,(by simpa using cc),b7,cj,co,aa,aa⟩ ?_;rintro a5 bQ aw ⟨i,C,aq,pp,hi,J,al,cg,O,cu,rfl⟩;refine bA cu<|bq 2 aa ?_;obtain ⟨cG,c1,c2,c3,bT,bU,bV⟩:=J.aV;refine dZ fun A=>aT [0,1,2,3,4] aa A<|ji (t:=28) aa (fun cl=> ?_) fun cl=> ?_;refine aT [5,6,7] aa A<|cB 8 aa (fun w' I=>ld1 aa<|Wk.aV I<|bU) A<|aT [9,10,11] aa A<|cB 12 aa (fun w' I=>ld1 aa<|Wk.aV I<|c3) A<|aT [13,14,15] aa A<|ji (t:=39) aa (fun bM=> ?_) fun bM=> ?_;refine aT [16,17,18] aa A<|cB 19 aa (fun w' I=>ld1 aa<|Wk.aV I<|bV) A<|aT [20,21,22] aa A<|cB 23 aa (fun w' I=>ld1 aa<|Wk.aV I<|bT) A<|aT [24,25] aa A<|hn aj<|dz 1 aa<|cd aa (fun bv=> ?_) fun bv=> ?_;have ce:=J.wk A;have bx:=Wk.bl A cg;have ai:=al.trans<|Tw.wk A;have b3:=vP bn am ai.md;have bH:=sZ cq am ai;have cs:=oq.1<|dR (d:=0) (show i < (bh F (flagsOf xs en) 1).length by omega);obtain ⟨r,a0⟩:∃ r,F.rules[((bh F (flagsOf xs en) 1).getD i 0)]? =some r:=⟨_,bY cs.1⟩
 have bL:F.rules.getD ((bh F (flagsOf xs en) 1).getD i 0) dF=r:=by rw [cH,a0]; rfl
 have Y:=Yo (g:=ni F xs en word f s) 0 (show i < (bh F (flagsOf xs en) 1).length by omega);have ao:=(ae.jm a0).2.2;refine aH 8 aa<|p (a6 ke aa aa ab<|aB.ok ((aX bH).2)<|bS ab)<|p (ld1 aa<|aB.gV (i:=i) (aX bH).2<|oh ab)<|au 1 aa<|e<|dd gM aa aa (v:= .int .i64 ((((bh F (flagsOf xs en) 1).getD i 0):Nat):Int)) aa bx (by show 4 < 5; omega) fun a4 aF b2=> ?_;have bB:a4.heap[G]? =some (.cells (dS ⟨aq,en,f,s,(((bh F (flagsOf xs en) 1).getD i 0):Nat)⟩).toArray 74 (0,0)):=b2;have cf:=ce.I0 aF O;have aD:=SO b3 bx aF;obtain ⟨cF,cI,cP,rc,cv,bb,bI,cJ⟩:=aD.jm a0;refine aQ 3 aa<|dZ fun E=>aT [0,1,2] aa E<|cw 3 aa E ((a8 aD.cells).trans aa)<|aT [4,5] aa E<|cw 6 aa E (cv)<|aT [7] aa E<|cw 8 aa E ((a8 bB).trans (show _=some (gq .i64 ((((bh F (flagsOf xs en) 1).getD i 0):Nat):Int)) from aa))<|bP 9 aa (a6 oY aa aa ab<|aB.ok (bb.wk E)<|o4 bI) E<|fz 10 aa (fun w' I=>cQ sH aa (aa) fun j ac=>fI (f:=jZ) (m:=8) (fun _=>rfl) (bb.wk I) bI j ac) E<|aT [11] aa E<|he 12 aa aj<|aM (CT r _ word a4.drew (by unfold kh at ao; omega) (by unfold kh at ao; omega) (by unfold kh at ao; omega) ab) aa ?_;rintro v70 bN ⟨rfl,bk⟩;have ax:=E.trans bk;have bw:=Wk.bl ax bB;have aG:(fun w'=>Wk a4 w') bN:=E.trans bk;refine ⟨aG,?_⟩;refine bP 13 aa (mv) aG<|aT [14,15,16,17] aa aG<|hn aj<|dq 4 aa<|p (cQ vu aa (aa) fun j ac=>(oP bw).bu j)<|e<|aM (J1 B tb fb V ve F xs aq en f s (((bh F (flagsOf xs en) 1).getD i 0):Nat) bN (aD.wk ax) ae bD hs<|.inr ab) aa ?_;rintro v75 cE ⟨rfl,bm⟩;have bd:=ax.trans bm;have aL:=cf.wk bd;have aP:=Wk.bl bm bw;have cK:=(dD.1 aS).1;have ah:Tw fp w C cE:=⟨(ai.md.trans' aF fun q aZ h=>by omega).trans' bd (fun _ _ h=>h.elim),fun k hk=>ai.sub k hk⟩
 refine au 7 aa<|gb (t:=77) aa (fun aN=> ?_) fun aN=> ?_;obtain ⟨v,a1⟩:∃ v,eE r word=some v:=nP.1 aN;have cx:(eE r word).getD []=v:=by rw [a1]; rfl
 have cy:=sI (by unfold kh at ao; omega) a1;refine aQ 4 aa<|cb aa (fun aW=> ?_) fun aW=> ?_;have dY:=Qb (word:=word) aW<|by rw [bL]; exact a1
 rw [dY] at Y;refine aH 4 aa<|e<|dd l7 aa aa (v:=str<|(eE r word).getD []) aa aP (by show 0 < 5; omega) fun a2 br a9=> ?_;rw [cx] at a9;have aR:a2.heap[G]? =some (.cells (dS ⟨v,en,f,s,(((bh F (flagsOf xs en) 1).getD i 0):Nat)⟩).toArray 74 (0,0)):=a9;have b8:=aL.I0 br O;have b6:Tw fp w C a2:=⟨ah.md.trans' br (fun q aZ h=>by omega),ah.sub⟩
 refine au 4 aa<|p (cQ vu aa (aa) fun j ac=>(oP aR).bu j)<|e<|aM (I4 S0 xb dx q most limit (jb q most limit acc<|nY F xs en word f s++((bh F (flagsOf xs en) 1).take i).filterMap (ni F xs en word f s)) C ⟨v,en,f,s,(((bh F (flagsOf xs en) 1).getD i 0):Nat)⟩ a2 b8 ⟨cy.1,by show v.length≤1000; omega⟩ bG) aa ?_;rintro cS cW ⟨rfl,bW,b9,aI⟩;have ch:=aI.md.bl aR O;have cm:=Jg aI O (dD.1 aR).1;exact au 5 aa<|p (bC<|i+1)<|aC 2 aa<|tn<|⟨_,ab,i+1,bW,_,_,ab,(by rw [Y,← eX,vQ]; exact b9),(b6.trans aI),ch,cm,aa,aa⟩
 have dY:=Qa (word:=word) aW;rw [dY] at Y;exact aH 5 aa<|p (bC<|i+1)<|aC 2 aa<|tn<|⟨_,ab,i+1,C,_,_,ab,(by rw [Y]; simpa using aL),ah,aP,O,aa,aa⟩
 have dY:=P9 (xs:=xs) (e:=en) (f:=f) (s:=s) (word:=word) (p:=(bh F (flagsOf xs en) 1).getD i 0)<|by rw [bL]; simpa using aN
 rw [dY] at Y;exact au 10 aa<|p (bC<|i+1)<|aC 2 aa<|tn<|⟨_,ab,i+1,C,_,_,ab,(by rw [Y]; simpa using aL),ah,aP,O,aa,aa⟩
 exact aJ 2 aa<|bK<|bc 1 aa<|f0 aa<|⟨aa,C,(by unfold iq; rw [Ix (BC bv)]; exact J.wk A),al.trans<|Tw.wk A⟩
 exact aT [16,17,18,19,20,21,22,23,24,25] aa A<|hn aj<|bc 4 aa<|bK<|bc 1 aa<|f0 aa<|⟨aa,C,(by unfold iq; rw [Ix (BD bM)]; exact J.wk A),al.trans<|Tw.wk A⟩
 refine aT [5,6,7,8,9,10,11,12,13,14] aa A<|bP 15 aa (mv) A<|aT [16,17,18,19,20,21,22,23,24,25] aa A<|hn aj<|bc 4 aa<|bK<|bc 1 aa<|f0 aa ?_;rw [eY ab] at J;exact ⟨aa,C,J.wk A,al.trans<|Tw.wk A⟩
set_option maxHeartbeats 4000000 in
theorem Zj (B tb fb:Nat) (V:eo) (ve:ag) (F:aE) (xs:List bp) (S0 xb:Nat) (dx:Bool) (q:Option Tx) (most limit:Int) (acc:List bE) (fp:Nat→Prop) (n:Int) (w:ak) (ac:ga w B tb fb V ve F xs) (O:ec F xs) (al:iV w fp S0 xb dx q most limit acc) (bL:most≤2000∨limit≤1048576):
 ba az 62 (a7 [bj tb,.int .i64 n,bj xb]) w (fun v w'=>v= .tuple #[]∧∃ fp',iV w' fp' S0 xb dx q most limit (jb q most limit acc<|qD F xs n)∧Tw fp w fp' w'):=by
 obtain ⟨dB,ce,dp⟩:=ac.DK;have dV:=O.xl;have dS:=O.len;refine enter func62 aa ntmps62 aa<|bg 3 aa<|p mv<|au 2 aa<|gs (t:=18) aa (fun c0=> ?_) fun c0=> ?_;exact aC 13 aa<|rG aa<|⟨aa,fp,by rw [Gm ab,(show jb q most limit acc []=acc from aa)]; exact al,Tw.refl _ _⟩
 refine bI aa mv<|bI aa mv<|au 2 aa<|bI aa (ld1 aa<|dp)<|aQ 5 aa<|cd aa (fun cX=> ?_) fun cX=> ?_;exact aJ 2 aa<|rG aa<|⟨aa,fp,by rw [Gm ab,(show jb q most limit acc []=acc from aa)]; exact al,Tw.refl _ _⟩
 obtain ⟨k,rfl⟩:∃ k:Nat,n=(k:Int):=⟨n.toNat,ab⟩
 obtain ⟨x,a9⟩:∃ x,xs[k]? =some x:=⟨_,bY ab⟩
 obtain ⟨dC,dG,ws,a,c,dr,b2,cm,dM⟩:=ac.eu a9;obtain ⟨dJ,dL,cE,bi⟩:=tQ a9;have bH:jX F xs k=iq F xs k x.1 (-1) (-1)++(bh F (flagsOf xs (k:Int)) 2).flatMap (lN F xs k):=by unfold jX; rw [bi]
 have dW:=(O.vG x<|gB a9).1;have du:=O.ne x<|gB a9;have dP:=ur F (flagsOf xs (k:Int)) 2;have bs:qD F xs (k:Int)=jX F xs k:=A1 cE;refine aH 4 aa<|p mv<|au 2 aa<|p (ld1 aa<|dr)<|p mv<|p (a6 GO aa aa ab<|aB.ok (b2)<|vF cm)<|au 1 aa<|p (ld1 aa<|fI (f:=qF) (m:=2) (fun _=>rfl) b2 cm 0 aw)<|au 5 aa<|p mv<|p mv<|e<|aM (W0 B tb fb V ve F xs (k:Int) w ac O) aa ?_;rintro v37 dy ⟨bM,bk⟩;obtain ⟨ah,ai,rfl⟩:=cz bM;have ch:=al.wk bk;refine p bm<|au 4 aa<|p mv<|p mv<|au 1 aa<|p mv<|p (cV (ps:= [(1,ay k),(2,.int .i64 (-1)),(3,.int .i64 (-1))]) (L:= [.string ⟨⟨[]⟩⟩,ay k,.int .i64 (-1),.int .i64 (-1),.int .i64 0]) Ds aa<|aa)<|p mv<|e<|aM (DM B tb fb V ve F xs S0 xb dx q most limit acc fp x.1 [] k (-1) (-1) 0 ah ai w.heap.size dy (ac.wk bk) O ch bL bM (.inl aa) (.inl aa) ⟨du,ab⟩) aa ?_;rintro v44 dA ⟨rfl,cI,cS,b9⟩;have bx:=(Tw.wk bk).trans b9;have c8:=sZ bM ch b9;refine au 4 aa<|p mv<|p mv<|e<|aM (W8 B tb fb V ve F xs (k:Int) dA (vP ac al bx.md) O) aa ?_;rintro d3 d6 ⟨ck,bl⟩;obtain ⟨aI,aK,rfl⟩:=cz ck;have cU:=cS.wk bl;have cO:=bx.trans<|Tw.wk bl;have c9:=aU c8 bl;have df:=eR ck (show w.heap.size≤_ from bx.md.size);refine p bm<|aQ 8 aa<|lp (fun av cA an=> ∃ (i:Nat) (Y:Nat→Prop),(i≤(bh F (flagsOf xs (k:Int)) 2).length)∧(iV an Y S0 xb dx q most limit<|jb q most limit acc<|iq F xs k x.1 (-1) (-1)++((bh F (flagsOf xs (k:Int)) 2).take i).flatMap (lN F xs k))∧(Tw fp w Y an)∧(bo an w.heap.size 3 1 (.slice ah (bh F (flagsOf xs (k:Int)) 1).length ai) (bh F (flagsOf xs (k:Int)) 1).length<|(bh F (flagsOf xs (k:Int)) 1).map bJ)∧(bo an w.heap.size 3 1 (.slice aI (bh F (flagsOf xs (k:Int)) 2).length aK) (bh F (flagsOf xs (k:Int)) 2).length<|(bh F (flagsOf xs (k:Int)) 2).map bJ)∧(Sl cA [(0,bj tb),(1,ay k),(2,bj xb),(6,str x.1),(7,.slice ah (bh F (flagsOf xs (k:Int)) 1).length ai),(8,.slice aI (bh F (flagsOf xs (k:Int)) 2).length aK),(9,ay i)])∧((bh F (flagsOf xs (k:Int)) 2).length - i=av)) _ ⟨0,cI,ab,(by simpa using cU),cO,c9,df,aa,aa⟩ ?_;rintro av cA an ⟨i,Y,hi,ap,aO,db,dg,dl,rfl⟩;refine bA dl<|bq 2 aa ?_;obtain ⟨cD,c1,c2,c3,bb,bd,bf⟩:=ap.aV;refine dZ fun C=>aT [0,1,2,3,4] aa C<|ji (t:=52) aa (fun cY=> ?_) fun cY=> ?_;refine aT [5,6,7] aa C<|cB 8 aa (fun w' E=>ld1 aa<|Wk.aV E<|bd) C<|aT [9,10,11] aa C<|cB 12 aa (fun w' E=>ld1 aa<|Wk.aV E<|c3) C<|aT [13,14,15] aa C<|ji (t:=63) aa (fun cu=> ?_) fun cu=> ?_;refine aT [16,17,18] aa C<|cB 19 aa (fun w' E=>ld1 aa<|Wk.aV E<|bf) C<|aT [20,21,22] aa C<|cB 23 aa (fun w' E=>ld1 aa<|Wk.aV E<|bb) C<|aT [24,25] aa C<|hn aj<|dz 1 aa<|cd aa (fun ci=> ?_) fun ci=> ?_;have cW:=ap.wk C;have ca:=aO.trans<|Tw.wk C;have br:=vP ac al ca.md;have da:=aU db C;have bR:=aU dg C;have dk:=oq.1<|dR (d:=0) (show i < (bh F (flagsOf xs (k:Int)) 2).length by omega);obtain ⟨r,bW⟩:∃ r,F.rules[((bh F (flagsOf xs (k:Int)) 2).getD i 0)]? =some r:=⟨_,bY dk.1⟩
 have cp:F.rules.getD ((bh F (flagsOf xs (k:Int)) 2).getD i 0) dF=r:=by rw [cH,bW]; rfl
 have aF:=Hu (g:=lN F xs k) 0 (show i < (bh F (flagsOf xs (k:Int)) 2).length by omega);have a2:=(O.jm bW).2.2;obtain ⟨dD,dH,dX,rc,ds,b3,cn,dN⟩:=br.jm bW;refine bz 5 aa<|dZ fun J=>aT [0,1,2] aa J<|cw 3 aa J ((a8 br.cells).trans aa)<|aT [4,5] aa J<|cw 6 aa J (ds)<|aT [7,8] aa J<|bP 9 aa (a6 ke aa aa ab<|aB.ok ((aX bR).2.wk J)<|bS ab) J<|cw 10 aa J (aB.gV (i:=i) (aX bR).2<|oh ab)<|bP 11 aa (a6 oY aa aa ab<|aB.ok (b3.wk J)<|o4 cn) J<|fz 12 aa (fun w' E=>cQ sH aa (aa) fun j aS=>fI (f:=jZ) (m:=8) (fun _=>rfl) (b3.wk E) cn j aS) J<|aT [13] aa J<|he 14 aa aj<|aM (CT r _ x.1 an.drew.drew (by unfold kh at a2; omega) (by unfold kh at a2; omega) (by unfold kh at a2; omega) ab) aa ?_;rintro v91 cy ⟨rfl,b6⟩;have ax:=J.trans b6;have aR:=cW.wk ax;have cc:=ca.trans<|Tw.wk ax;have cL:=br.wk ax;have bO:=aU da ax;have aZ:=aU bR ax;have bu:(fun w'=>Wk an.drew w') cy:=J.trans b6;refine ⟨bu,?_⟩;refine bP 15 aa (mv) bu<|aT [16,17,18,19] aa bu<|hn aj<|dz 8 aa<|cb aa (fun bG=> ?_) fun bG=> ?_;have aA:eE r x.1=none:=by simpa using bG
 have aD:lN F xs k ((bh F (flagsOf xs (k:Int)) 2).getD i 0)= []:=by unfold lN; rw [cp,bi,aA]
 rw [aD,ez] at aF;exact aH 6 aa<|p (bC<|i+1)<|aC 2 aa<|tn<|⟨_,ab,i+1,Y,ab,(by rw [aF]; exact aR),cc,bO,aZ,aa,aa⟩
 obtain ⟨wd,aA⟩:∃ v,eE r x.1=some v:=nP.1<|by simpa using bG
 have aG:((eE r x.1).getD [])=wd:=by rw [aA]; rfl
 have aD:lN F xs k ((bh F (flagsOf xs (k:Int)) 2).getD i 0)=iq F xs k wd (((bh F (flagsOf xs (k:Int)) 2).getD i 0):Nat) (-1)++(bh F (bV F (((bh F (flagsOf xs (k:Int)) 2).getD i 0):Nat)) 2).flatMap (nI F xs k wd (((bh F (flagsOf xs (k:Int)) 2).getD i 0):Nat)):=by unfold lN; rw [cp,bi,aA]
 have dU:=sI (by unfold kh at a2; omega) aA;refine aH 10 aa<|p (a6 ke aa aa ab<|aB.ok ((aX aZ).2)<|bS ab)<|p (ld1 aa<|aB.gV (i:=i) (aX aZ).2<|oh ab)<|p (cV (ps:= [(1,ay k),(2,.int .i64 (((bh F (flagsOf xs (k:Int)) 2).getD i 0):Nat)),(3,.int .i64 (-1))]) (L:= [.string ⟨⟨[]⟩⟩,ay k,.int .i64 (((bh F (flagsOf xs (k:Int)) 2).getD i 0):Nat),.int .i64 (-1),.int .i64 0]) Ds aa<|aa)<|au 1 aa<|e<|aM (DM B tb fb V ve F xs S0 xb dx q most limit (jb q most limit acc<|iq F xs k x.1 (-1) (-1)++((bh F (flagsOf xs (k:Int)) 2).take i).flatMap (lN F xs k)) Y ((eE r x.1).getD []) [] k ((((bh F (flagsOf xs (k:Int)) 2).getD i 0):Nat):Int) (-1) 0 ah ai w.heap.size cy cL O aR bL bO (.inr ab) (.inl aa)<|by rw [aG]; omega) aa ?_;rintro dY dw ⟨rfl,cF,cf,bw⟩;rw [aG,← vQ] at cf;have bv:=cc.trans bw;have c4:=sZ bO aR bw;have bQ:=sZ aZ aR bw;have cJ:=vP ac al bv.md;refine au 7 aa<|p (a6 ke aa aa ab<|aB.ok ((aX bQ).2)<|bS ab)<|p (ld1 aa<|aB.gV (i:=i) (aX bQ).2<|oh ab)<|e<|aM (W7 B tb fb V ve F xs (((bh F (flagsOf xs (k:Int)) 2).getD i 0):Nat) dw cJ O) aa ?_;rintro d0 d4 ⟨cl,aL⟩;obtain ⟨b0,b1,rfl⟩:=cz cl;have cP:=cf.wk aL;have cM:=bv.trans<|Tw.wk aL;have c5:=aU c4 aL;have dc:=aU bQ aL;have dh:=eR cl (show w.heap.size≤_ from bv.md.size);have dQ:=ur F (bV F (((bh F (flagsOf xs (k:Int)) 2).getD i 0):Nat)) 2;refine p bm<|aQ 8 aa<|lp (fun av cC ae=> ∃ (j:Nat) (Z:Nat→Prop),(j≤(bh F (bV F (((bh F (flagsOf xs (k:Int)) 2).getD i 0):Nat)) 2).length)∧(iV ae Z S0 xb dx q most limit<|jb q most limit acc<|iq F xs k x.1 (-1) (-1)++((bh F (flagsOf xs (k:Int)) 2).take i).flatMap (lN F xs k)++(iq F xs k wd (((bh F (flagsOf xs (k:Int)) 2).getD i 0):Nat) (-1)++((bh F (bV F (((bh F (flagsOf xs (k:Int)) 2).getD i 0):Nat)) 2).take j).flatMap (nI F xs k wd (((bh F (flagsOf xs (k:Int)) 2).getD i 0):Nat))))∧(Tw fp w Z ae)∧(bo ae w.heap.size 3 1 (.slice ah (bh F (flagsOf xs (k:Int)) 1).length ai) (bh F (flagsOf xs (k:Int)) 1).length<|(bh F (flagsOf xs (k:Int)) 1).map bJ)∧(bo ae w.heap.size 3 1 (.slice aI (bh F (flagsOf xs (k:Int)) 2).length aK) (bh F (flagsOf xs (k:Int)) 2).length<|(bh F (flagsOf xs (k:Int)) 2).map bJ)∧(bo ae w.heap.size 3 1 (.slice b0 (bh F (bV F (((bh F (flagsOf xs (k:Int)) 2).getD i 0):Nat)) 2).length b1) (bh F (bV F (((bh F (flagsOf xs (k:Int)) 2).getD i 0):Nat)) 2).length<|(bh F (bV F (((bh F (flagsOf xs (k:Int)) 2).getD i 0):Nat)) 2).map bJ)∧(Sl cC [(0,bj tb),(1,ay k),(2,bj xb),(6,str x.1),(7,.slice ah (bh F (flagsOf xs (k:Int)) 1).length ai),(8,.slice aI (bh F (flagsOf xs (k:Int)) 2).length aK),(9,ay i),(10,str ((eE r x.1).getD [])),(12,.slice b0 (bh F (bV F (((bh F (flagsOf xs (k:Int)) 2).getD i 0):Nat)) 2).length b1),(13,ay j)])∧((bh F (bV F (((bh F (flagsOf xs (k:Int)) 2).getD i 0):Nat)) 2).length - j=av)) _ ⟨0,cF,ab,(by simpa using cP),cM,c5,dc,dh,aa,aa⟩ ?_;rintro av cC ae ⟨j,Z,aS,aq,aP,aW,a0,dj,dn,rfl⟩;refine bA dn<|bq 2 aa ?_;obtain ⟨cD,c1,c2,c3,bb,bd,bf⟩:=aq.aV;refine dZ fun A=>aT [0,1,2,3,4] aa A<|ji (t:=117) aa (fun cZ=> ?_) fun cZ=> ?_
 refine aT [5,6,7] aa A<|cB 8 aa (fun w' E=>ld1 aa<|Wk.aV E<|bd) A<|aT [9,10,11] aa A<|cB 12 aa (fun w' E=>ld1 aa<|Wk.aV E<|c3) A<|aT [13,14,15] aa A<|ji (t:=128) aa (fun cv=> ?_) fun cv=> ?_;refine aT [16,17,18] aa A<|cB 19 aa (fun w' E=>ld1 aa<|Wk.aV E<|bf) A<|aT [20,21,22] aa A<|cB 23 aa (fun w' E=>ld1 aa<|Wk.aV E<|bb) A<|aT [24,25] aa A<|hn aj<|dz 1 aa<|cd aa (fun cj=> ?_) fun cj=> ?_;have cR:=aq.wk A;have b7:=aP.trans<|Tw.wk A;have bn:=vP ac al b7.md;have c6:=aU aW A;have dd:=aU a0 A;have bT:=aU dj A;have dv:=oq.1<|dR (d:=0) (show j < (bh F (bV F (((bh F (flagsOf xs (k:Int)) 2).getD i 0):Nat)) 2).length by omega);obtain ⟨am,bX⟩:∃ r,F.rules[((bh F (bV F (((bh F (flagsOf xs (k:Int)) 2).getD i 0):Nat)) 2).getD j 0)]? =some r:=⟨_,bY dv.1⟩
 have cq:F.rules.getD ((bh F (bV F (((bh F (flagsOf xs (k:Int)) 2).getD i 0):Nat)) 2).getD j 0) dF=am:=by rw [cH,bX]; rfl
 have a4:=Hu (g:=nI F xs k wd (((bh F (flagsOf xs (k:Int)) 2).getD i 0):Nat)) 0 (show j < (bh F (bV F (((bh F (flagsOf xs (k:Int)) 2).getD i 0):Nat)) 2).length by omega);have a3:=(O.jm bX).2.2;obtain ⟨dE,dI,d7,d8,dt,b4,co,dO⟩:=bn.jm bX;refine bz 5 aa<|dZ fun I=>aT [0,1,2] aa I<|cw 3 aa I ((a8 bn.cells).trans aa)<|aT [4,5] aa I<|cw 6 aa I (dt)<|aT [7,8] aa I<|bP 9 aa (a6 ke aa aa ab<|aB.ok ((aX bT).2.wk I)<|bS ab) I<|cw 10 aa I (aB.gV (i:=j) (aX bT).2<|oh ab)<|bP 11 aa (a6 oY aa aa ab<|aB.ok (b4.wk I)<|o4 co) I<|fz 12 aa (fun w' E=>cQ sH aa (aa) fun j aS=>fI (f:=jZ) (m:=8) (fun _=>rfl) (b4.wk E) co j aS) I<|aT [13] aa I<|he 14 aa aj<|aM (CT am _ ((eE r x.1).getD []) ae.drew.drew (by unfold kh at a3; omega) (by unfold kh at a3; omega) (by unfold kh at a3; omega)<|by rw [aG]; omega) aa ?_;rintro d1 cx ⟨rfl,b5⟩;have ao:=I.trans b5;have bB:=cR.wk ao;have b8:=b7.trans<|Tw.wk ao;have cK:=bn.wk ao;have bN:=aU c6 ao;have aY:=aU dd ao;have a1:=aU bT ao;have bt:(fun w'=>Wk ae.drew w') cx:=I.trans b5;refine ⟨bt,?_⟩;refine bP 15 aa (mv) bt<|aT [16,17,18,19] aa bt<|hn aj<|dz 6 aa<|cb aa (fun bF=> ?_) fun bF=> ?_;obtain ⟨v2,cs⟩:∃ v,eE am ((eE r x.1).getD [])=some v:=nP.1 bF;have ct:(eE am<|(eE r x.1).getD []).getD []=v2:=by rw [cs]; rfl
 have a5:eE am wd=some v2:=by rw [← aG]; exact cs
 have bZ:nI F xs k wd (((bh F (flagsOf xs (k:Int)) 2).getD i 0):Nat) ((bh F (bV F (((bh F (flagsOf xs (k:Int)) 2).getD i 0):Nat)) 2).getD j 0)=iq F xs k v2 (((bh F (flagsOf xs (k:Int)) 2).getD i 0):Nat) (((bh F (bV F (((bh F (flagsOf xs (k:Int)) 2).getD i 0):Nat)) 2).getD j 0):Nat):=by unfold nI; rw [cq,a5]
 have dT:=sI (by unfold kh at a3; omega) a5;rw [bZ] at a4;refine l9 14 fun G=>bU [0,1,2,3,4,5] aa G<|cT 6 aa (a6 ke aa aa ab<|aB.ok ((aX aY).2.wk G)<|bS ab) G<|ma 7 aa G (aB.gV (i:=i) (aX aY).2<|oh ab)<|bU [8,9] aa G<|cT 10 aa (a6 ke aa aa ab<|aB.ok ((aX a1).2.wk G)<|bS ab) G<|ma 11 aa G (aB.gV (i:=j) (aX a1).2<|oh ab)<|kK 12 aa (fun _=>cV (ps:= [(1,ay k),(2,.int .i64 (((bh F (flagsOf xs (k:Int)) 2).getD i 0):Nat)),(3,.int .i64 (((bh F (bV F (((bh F (flagsOf xs (k:Int)) 2).getD i 0):Nat)) 2).getD j 0):Nat))]) (L:= [.string ⟨⟨[]⟩⟩,ay k,.int .i64 (((bh F (flagsOf xs (k:Int)) 2).getD i 0):Nat),.int .i64 (((bh F (bV F (((bh F (flagsOf xs (k:Int)) 2).getD i 0):Nat)) 2).getD j 0):Nat),.int .i64 0]) Ds aa<|aa) (fun _=>G) ?_;refine bU [13] aa G<|dK 14 aa aj aj<|aM (DM B tb fb V ve F xs S0 xb dx q most limit (jb q most limit acc<|iq F xs k x.1 (-1) (-1)++((bh F (flagsOf xs (k:Int)) 2).take i).flatMap (lN F xs k)++(iq F xs k wd (((bh F (flagsOf xs (k:Int)) 2).getD i 0):Nat) (-1)++((bh F (bV F (((bh F (flagsOf xs (k:Int)) 2).getD i 0):Nat)) 2).take j).flatMap (nI F xs k wd (((bh F (flagsOf xs (k:Int)) 2).getD i 0):Nat)))) Z ((eE am<|(eE r x.1).getD []).getD []) [] k ((((bh F (flagsOf xs (k:Int)) 2).getD i 0):Nat):Int) ((((bh F (bV F (((bh F (flagsOf xs (k:Int)) 2).getD i 0):Nat)) 2).getD j 0):Nat):Int) 0 ah ai w.heap.size cx.drew (cK.wk G) O (bB.wk G) bL (aU bN G) (.inr ab) (.inr ab)<|by rw [ct]; omega) aa ?_;rintro d2 d5 ⟨rfl,cG,cg,aN⟩;rw [ct,← vQ] at cg;have bD:=bB.wk G;have cN:=(b8.trans<|Tw.wk G).trans aN;have c7:=sZ (aU bN G) bD aN;have de:=sZ (aU aY G) bD aN;have di:=sZ (aU a1 G) bD aN;exact eQ aj<|dq 4 aa<|p (bC<|j+1)<|aC 2 aa<|tn<|⟨_,ab,j+1,cG,ab,(by rw [a4,← eX (iq F xs k wd (((bh F (flagsOf xs (k:Int)) 2).getD i 0):Nat)<|-1),← eX]; exact cg),cN,c7,de,di,aa,aa⟩
 have a5:eE am wd=none:=by rw [← aG]; simpa using bF
 have bZ:nI F xs k wd (((bh F (flagsOf xs (k:Int)) 2).getD i 0):Nat) ((bh F (bV F (((bh F (flagsOf xs (k:Int)) 2).getD i 0):Nat)) 2).getD j 0)= []:=by unfold nI; rw [cq,a5]
 rw [bZ,ez] at a4;exact aH 5 aa<|p (bC<|j+1)<|aC 2 aa<|tn<|⟨_,ab,j+1,Z,ab,(by rw [a4]; exact bB),b8,bN,aY,a1,aa,aa⟩
 exact aJ 2 aa<|bK<|dq 5 aa<|p (bC<|i+1)<|aC 2 aa<|tn<|⟨_,ab,i+1,Z,ab,(by rw [aF,aD,← eX (iq F xs k x.1 (-1)<|-1)]; rw [Iw (BC cj)]; exact aq.wk A),(aP.trans<|Tw.wk A),(aU aW A),(aU a0 A),aa,aa⟩
 exact aT [16,17,18,19,20,21,22,23,24,25] aa A<|hn aj<|bc 4 aa<|bK<|dq 5 aa<|p (bC<|i+1)<|aC 2 aa<|tn<|⟨_,ab,i+1,Z,ab,(by rw [aF,aD,← eX (iq F xs k x.1 (-1)<|-1)]; rw [Iw (BD cv)]; exact aq.wk A),(aP.trans<|Tw.wk A),(aU aW A),(aU a0 A),aa,aa⟩
 exact aT [5,6,7,8,9,10,11,12,13,14] aa A<|bP 15 aa (mv) A<|aT [16,17,18,19,20,21,22,23,24,25] aa A<|hn aj<|bc 4 aa<|bK<|dq 5 aa<|p (bC<|i+1)<|aC 2 aa<|tn<|⟨_,ab,i+1,Z,ab,(by rw [aF,aD,← eX (iq F xs k x.1 (-1)<|-1)]; rw [eY (show (bh F (bV F (((bh F (flagsOf xs (k:Int)) 2).getD i 0):Nat)) 2).length≤j by omega)] at aq; exact aq.wk A),(aP.trans<|Tw.wk A),(aU aW A),(aU a0 A),aa,aa⟩
 exact aJ 2 aa<|bK<|bc 1 aa<|f0 aa<|⟨aa,Y,by rw [bs,bH,B5 (BC ci)]; exact ap.wk C,aO.trans<|Tw.wk C⟩
 exact aT [16,17,18,19,20,21,22,23,24,25] aa C<|hn aj<|bc 4 aa<|bK<|bc 1 aa<|f0 aa<|⟨aa,Y,by rw [bs,bH,B5 (BD cu)]; exact ap.wk C,aO.trans<|Tw.wk C⟩
 refine aT [5,6,7,8,9,10,11,12,13,14] aa C<|bP 15 aa (mv) C<|aT [16,17,18,19,20,21,22,23,24,25] aa C<|hn aj<|bc 4 aa<|bK<|bc 1 aa<|f0 aa ?_;rw [eY ab] at ap;exact ⟨aa,Y,by rw [bs,bH]; exact ap.wk C,aO.trans<|Tw.wk C⟩
end Go.Hb
end
section
namespace Go.Hb
open Go.Hb.ki Go.Hb.tI
theorem GJ (A s1:Tx) (a0 E I d0 C G c1 d1:Int) (w:ak):(binOp .eql 49 (.agg [str A,.int .i64 a0,.int .i64 E,.int .i64 I,.int .i64 d0].toArray)<|.agg [str s1,.int .i64 C,.int .i64 G,.int .i64 c1,.int .i64 d1].toArray).run az w= .ok (.bool<|decide (A=s1∧a0=C∧E=G∧I=c1∧d0=d1)) w:=by
 have O:=underlying9;have V:=underlying3;have J:az.underlying 49=some (.struct<|az.fieldsOf 49):=aj;have hp:az.stoodInHeld 49=false :=aj;rw [run_eql_struct,show (10000:Nat)=9999 +1 from rfl,run_equalIn_agg w 9999 49 _ _ J hp];simp only [Program.fieldsOf,Ec];have hs:(str A=str s1)=(A=s1):=by unfold str; simp
 unfold str at*;go_simp;by_cases h1:A=s1 <;> by_cases h2:a0=C <;> by_cases h3:E=G <;> by_cases h4:I=c1 <;> by_cases h5:d0=d1 <;> simp [h1,h2,h3,h4,h5]
section
variable {N:Fm} {σ:Nat→ag} {w:ak} {dst:Option Nat} {ty:TypeId} {pos :String} {af:Array Edge} {g:Option (Nat×Bool)} {x y:Operand}
theorem Ro {Y:TypeId} {I s1:Tx} {a0 C G d0 A E c1 d1:Int} (O:ev N σ x= .agg [str I,.int .i64 a0,.int .i64 C,.int .i64 G,.int .i64 d0].toArray) (V:ev N σ y= .agg [str s1,.int .i64 A,.int .i64 E,.int .i64 c1,.int .i64 d1].toArray):
 (execOp (ev N σ) ⟨dst,.binOp .eql 49 x y Y,ty,pos,af,g⟩).run az w= .ok (.value<|.bool<|decide (I=s1∧a0=A∧C=E∧G=c1∧d0=d1)) w:=by
 have hm:az.eqGuardType az.depth 49=false :=aj;have J:=run_eqGuard_agg w .eql 49 x y [str I,.int .i64 a0,.int .i64 C,.int .i64 G,.int .i64 d0].toArray [str s1,.int .i64 A,.int .i64 E,.int .i64 c1,.int .i64 d1].toArray hm;have he:=GJ I s1 a0 C G d0 A E c1 d1 w;simp only [execOp,O,V,oF,J,he,oE,q8]
end
theorem A9 {l:List bE} (h:0 < l.length):fM l≠[]:=Bv (f:=dS) (m:=5) (fun _=>rfl) aw h
theorem yY {w:ak} {B e:Nat} {a:Option bF} {L:List bE} {c:Nat} (h:bo w B e 5 (.slice a L.length c) L.length (fM L)):aB w.heap a (fM L):=(aX h).2
end Go.Hb
end
section
namespace Go.Hb
open Go.Hb.ki
noncomputable def yK (F:aE) (xs:List bp) (n f s p:Int):Option Tx:=if 0≤n∧n < xs.length then gW F xs n.toNat f s p else none
theorem U4 {F:aE} {xs:List bp} {n f s p:Int} (h:¬(0≤n∧n < xs.length)):yK F xs n f s p=none:=if_neg h
theorem vW {F:aE} {xs:List bp} {k:Nat} {f s p:Int} (h:k < xs.length):yK F xs k f s p=gW F xs k f s p:=by unfold yK; rw [if_pos ab,kg]
def nv (F:aE) (xs:List bp) (k:Nat) (f:Int):Nat→List Nat
 | 0=>bh F (flagsOf xs k) 2
 | 1=>bh F (bV F f) 2
 | _=>bh F (flagsOf xs k) 1
def qM (f s p:Int):Nat→Int
 | 0=>f
 | 1=>s
 | _=>p
noncomputable def kY (F:aE) (xs:List bp) (k:Nat) (f s p:Int):Nat→Option Tx
 | 0=>some (xs.getD k ([],[])).1
 | i+1=>(kY F xs k f s p i).bind<|gQ F (nv F xs k f i)<|qM f s p i
section
variable {F:aE} {xs:List bp} {k:Nat} {f s p:Int}
theorem Cq (h:f= -1∧s≠ -1):gW F xs k f s p=none:=if_pos h
theorem vY (h:¬(f= -1∧s≠ -1)):gW F xs k f s p=(kY F xs k f s p 3).bind fun u=>if fu F xs k f s p=true then some u else none:=by
 unfold gW;rw [if_neg h];show _=(((some (xs.getD k ([],[])).1).bind<|gQ F (bh F (flagsOf xs k) 2) f).bind (gQ F (bh F (bV F f) 2) s) |>.bind (gQ F (bh F (flagsOf xs k) 1) p)).bind _;rw [rj,Nc,Nc]
theorem I9 {i:Nat} (h:kY F xs k f s p i=none):∀ j,kY F xs k f s p (i+j)=none
 | 0=>h
 | j+1=>by
   show (kY F xs k f s p<|i+j).bind _=none;rw [I9 h j]; rfl
theorem Du {L:List Nat} {n:Int} {u v:Tx} (A:∀ i∈L,i < F.rules.length) (C: -1≤n) (h:gQ F L n u=some v):Rn F n:=by
 unfold gQ at h;unfold Rn;by_cases h1:n= -1
 · exact .inl h1
 · rw [if_neg h1] at h;by_cases h2:n.toNat∈L
   · have :=A _ h2; omega
   · rw [if_neg h2] at h; cases h
theorem X7 {L:List Nat} {n:Nat} {u:Tx} (h:n∈L):gQ F L n u=eE (F.rules.getD n dF) u:=by unfold gQ; rw [if_neg ab,kg,if_pos h]
theorem X9 {L:List Nat} {n:Nat} {u:Tx} (h:n∉L):gQ F L n u=none:=by unfold gQ; rw [if_neg ab,kg,if_neg h]
theorem vX (i:Nat):∀ j∈nv F xs k f i,j < F.rules.length:=by
 intro j A;unfold nv at A;split at A <;> exact (oq.1 A).1
theorem U5 (i:Nat):(nv F xs k f i).length≤F.rules.length:=by
 unfold nv;split <;> exact ur _ _ _
theorem Ja {u:Tx} (A: -1≤f) (hs: -1≤s) (hp: -1≤p) (h:kY F xs k f s p 3=some u):Rn F f∧Rn F s∧Rn F p:=by
 obtain ⟨E,h2,h3⟩:=sB.1 (show (kY F xs k f s p 2).bind _=some u from h);obtain ⟨C,h1,h2⟩:=sB.1 (show (kY F xs k f s p 1).bind _=some E from h2);obtain ⟨G,_,h1⟩:=sB.1 (show (kY F xs k f s p 0).bind _=some C from h1);exact ⟨Du (vX 0) A h1,Du (vX 1) hs h2,Du (vX 2) hp h3⟩
end
theorem X8 {F:aE} {xs:List bp} (C:ec F xs) {L:List Nat} {n:Int} {u v:Tx} (E:∀ i∈L,i < F.rules.length) (h:gQ F L n u=some v):v.length≤u.length+32:=by
 unfold gQ at h;by_cases h1:n= -1
 · rw [if_pos h1] at h; cases h; omega
 · rw [if_neg h1] at h;by_cases h2:n.toNat∈L
   · rw [if_pos h2] at h;obtain ⟨r,A⟩:∃ r,F.rules[n.toNat]? =some r:=⟨_,bY<|E _ h2⟩
     rw [cH,A] at h;exact (sI (ox C A).2.2.2 h).2
   · rw [if_neg h2] at h; cases h
def JK (p:ag×ag):List ag:= [p.1,p.2]
theorem TI (a:Option bF) (c:Nat) (l:List Nat) (x:Nat) (w:ak) (C:aB w.heap a (l.map bJ)) (ac:l.length≤1048576):
 ba az 144 (a7 [.slice a l.length c,ay x]) w (fun v w'=>(∃ k:Int,v= .int .i64 k∧(0≤k↔x∈l)∧ -1≤k∧k≤1048576)∧Wk w w'):=by
 refine enter func144 aa ntmps144 aa<|bq 14 aa<|lp (fun A O J=> ∃ (i:Nat),(i≤l.length)∧(∀ j,j < i→l.getD j 0≠x)∧(J=w)∧(Sl O [(0,.slice a l.length c),(1,ay x),(7,ay (l.length)),(8,ay i)])∧(l.length - i=A)) _ ⟨0,ab,(fun j G=>by omega),aa,aa,aa⟩ ?_;rintro A O J ⟨i,hi,I,V,Z,rfl⟩;refine bA Z ?_;subst V;refine bq 6 aa<|cd aa (fun Y=> ?_) fun Y=> ?_;refine aH 15 aa<|p (a6 ke aa aa ab<|aB.ok (C)<|bS ab)<|p (ld1 aa<|aB.gV C (show (l.map bJ)[i]? =some (ay<|l.getD i 0) by rw [fJ,cH,bY (by omega :i < l.length)]; rfl)) ?_;refine aQ 3 aa<|cd aa (fun E=> ?_) fun E=> ?_;exact aJ 9 aa<|tr<|bc 2 aa<|aR aa<|⟨⟨(i:Nat),aa,⟨fun _=>by obtain rfl :x=l.getD i 0:=ab; exact dR ab,fun _=>by omega⟩,ab,ab⟩,Md.refl _ _⟩
 exact aJ 7 aa<|tn<|⟨_,ab,i+1,ab,(fun j G=>by rcases fG j i with h | h <;> first | exact I j h | (rw [show j=i by omega]; exact fun h2=>E<|by rw [h2])),aa,aa,aa⟩
 exact aJ 2 aa<|bK<|bc 8 aa<|aR aa<|⟨⟨-1,aa,⟨fun h=>absurd h ab,fun h=>by obtain ⟨j,G,e⟩:=mM 0 h; exact absurd e<|I j ab⟩,ab,ab⟩,Md.refl _ _⟩
theorem PX (a:Option bF) (c:Nat) (l:List Nat) (x:Nat) (w:ak) (A:aB w.heap a (l.map bJ)) (E:l.length≤1048576):
 ba az 88 (a7 [.slice a l.length c,ay x]) w (fun v w'=>v= .bool (decide (x∈l))∧Wk w w'):=by
 refine enter func88 aa ntmps88 aa<|bg 9 aa<|e<|aM (TI a c l x w A E) aa ?_;rintro J O ⟨⟨G,rfl,C,I⟩,hE7⟩;exact aC 5 aa<|aR aa<|⟨by show bR (decide (G≥0))=_; exact congrArg bR (decide_eq_decide.2 C),hE7⟩
theorem Ya (F:aE) (xs:List bp) (E:ec F xs) (ar:Option bF) (cr:Nat) (rn:List ag) (a:Option bF) (c:Nat) (L:List Nat) (n:Int) (u:Tx) (w:ak) (I:aB w.heap ar (iw<|F.rules.zip rn)) (aj:rn.length=F.rules.length) (Y:aB w.heap a (L.map bJ)) (ac:∀ i∈L,i < F.rules.length) (Z:L.length≤1048576) (am: -1≤n) (an:u.length≤1048576):
 ba az 48 (a7 [.slice ar F.rules.length cr,.slice a L.length c,.int .i64 n,str u]) w (fun v w'=>v=wj (gQ F L n u)∧Wk w w'):=by
 refine enter func48 aa ntmps48 aa<|bg 9 aa<|p mv<|aQ 3 aa<|cd aa (fun h1=> ?_) fun h1=> ?_;obtain rfl :n= -1:=h1;exact aH 2 aa<|p mv<|p bm<|aC 5 aa<|f2 aa aa aa<|⟨by rw [wX]; rfl,Md.refl _ _⟩
 obtain ⟨m,rfl⟩:∃ m:Nat,n=(m:Int):=⟨n.toNat,ab⟩
 refine aH 5 aa<|p mv<|p mv<|e<|aM (PX a c L m w Y Z) aa ?_;rintro ao al ⟨rfl,C⟩;refine aQ 3 aa<|cb aa (fun G=> ?_) fun G=> ?_;have ae:m∉L:=by simpa using G
 exact aJ 8 aa<|f2 aa aa aa<|⟨by rw [X9 ae]; rfl,C⟩
 have J:m∈L:=by simpa using G
 obtain ⟨r,A⟩:∃ r,F.rules[m]? =some r:=⟨_,bY<|ac m J⟩
 have ai:=(ff.1 A).1;have O:(F.rules.zip rn)[m]? =some (r,rn[m]'(by rw [aj]; exact ai)):=j7.2 ⟨A,bY _⟩;have ah:F.rules.getD m dF=r:=by rw [cH,A]; rfl
 refine aH 4 aa<|p mv<|p mv<|p (a6 nk aa aa ab<|aB.ok (I.wk C)<|oA O)<|p (cQ lI aa (aa)<|fI (f:=eS) (m:=7) (fun _=>rfl) (I.wk C) O)<|p mv<|e<|aM (N4 r _ u al (ox E A).1 (ox E A).2.1 (ox E A).2.2.1 ab) aa ?_;rintro v22 ap ⟨rfl,V⟩;exact aC 7 aa<|f2 aa aa aa<|⟨by rw [X7 J,ah]; rfl,C.trans V⟩
theorem UM (B tb:Nat) (U:gE) (F:aE) (xs:List bp) (a6:Tx) (n f s E:Int) (w:ak) (hT:fS w B tb U F xs) (I:ec F xs) (cm: -1≤f) (cB: -1≤s) (cv: -1≤E):
 ba az 25 (a7 [bj tb,.agg [str a6,.int .i64 n,.int .i64 f,.int .i64 s,.int .i64 E].toArray]) w (fun v w'=>v=wj (yK F xs n f s E)∧Wk w w'):=by
 refine enter func25 aa ntmps25 aa<|bg 2 aa<|e<|iL aa fun aG bU aU aN b5=> ?_;have cT:=aN.size;have ch:=hT.wk aN.md;have aU:bO bU.heap aG [str a6,.int .i64 n,.int .i64 f,.int .i64 s,.int .i64 E]:=b5;refine au 6 aa<|p mv<|au 1 aa<|p (ld1 aa<|aU.bu 1)<|e<|aM (ya B tb U F xs n bU ch I) aa ?_;rintro cX cG ⟨⟨cJ,rfl,ct⟩,hE16⟩;obtain ⟨b0,b2,rfl⟩:=cz ct;have cS:=hE16.size;refine p mv<|au 2 aa<|e<|al sd fun bi c2 bM bE b6=> ?_;have cW:=bE.size;refine e<|c8 kT aa aa aa aa (b6) (by simp) fun bb bB b4=> ?_;have ce:Wk cG bb:=bE.md.trans' bB fun q cx h=>by omega
 have cP:=bB.size;have bM:bO bb.heap bi [str (oc xs n),.slice b0 (flagsOf xs n).length b2]:=b4;have bt:=hE16.trans ce;have ah:=aN.md.trans bt;have aD:=hT.wk ah;have aW:=Wk.B bt aU;refine aQ 3 aa ?_;refine ei (fun bZ a9=>(a9=bb)∧(0≤n∧n < xs.length)∧(¬(f= -1∧s≠ -1))∧(Sl bZ [(0,bj tb),(3,bj aG),(6,bj bi)])) ?_ ?_;refine bg 5 aa<|gb (t:=21) aa (fun ao=> ?_) fun ao=> ?_;have cu:¬(0≤n∧n < xs.length):=fun h=>by rw [decide_eq_true h] at ao; cases ao
 exact aC 19 aa<|tr<|f2 aa aa aa<|⟨by rw [U4 cu]; rfl,ah⟩
 have a2:0≤n∧n < xs.length:=tj fun h=>by rw [decide_eq_false h] at ao; cases ao
 refine au 1 aa<|bI aa (ld1 aa<|aW.bu 2)<|au 2 aa<|gs (t:=25) aa (fun aZ=> ?_) fun aZ=> ?_;refine au 1 aa<|bI aa (ld1 aa<|aW.bu 3)<|aQ 5 aa<|cd aa (fun aq=> ?_) fun aq=> ?_;refine aJ 7 aa<|tr<|f2 aa aa aa ?_;obtain ⟨k,rfl⟩:∃ m:Nat,n=(m:Int):=⟨n.toNat,ab⟩
 exact ⟨by rw [vW ab,Cq ⟨aZ,aq⟩]; rfl,ah⟩;exact aJ 1 aa<|tn<|⟨aa,a2,(fun h=>aq h.2),aa⟩
 exact au 4 aa<|p (rX aa)<|aC 4 aa<|tn<|⟨aa,a2,(fun h=>aZ h.1),aa⟩
 rintro bZ a9 ⟨cE,a2,a0,aq⟩;refine bA aq ?_;subst cE;refine aH 5 aa<|p (ld1 aa<|(a8 aD.cells).trans aa)<|e<|aM (xI B U.fb U.mc F U.V a9 aD.fl (by have :=I.len; omega) I.nx) aa ?_;rintro v35 J ⟨⟨⟨v9,v10,v11,v12,sa,rn⟩,rfl,hax⟩,hE35⟩;obtain ⟨ar,cr,a5⟩:=cz hax.dB;have a5:v12=_:=a5;subst a5;have cU:=hE35.size;have bS:rn.length=F.rules.length:=by have :=hax.nx.1; rwa [fC] at this
 have bs:aB J.heap ar (iw<|F.rules.zip rn):=(aX hax.dB).2;have Z:=Wk.B hE35 aW;have ck:=Wk.B hE35 bM;have bH:=(aD.wk hE35).wk (Md.refl _ _).drew;refine p (GU GV aa aa)<|p bm<|au 5 aa<|p (ld1 aa<|ck.bu 0)<|aQ 5 aa<|dZ fun G=>aT [0,1] aa G<|cw 2 aa G (Z.bu 1)<|aT [4] aa G<|cw 5 aa G (Z.bu 2)<|aT [7,8] aa G<|cw 9 aa G (Z.bu 2)<|aT [11] aa G<|cw 12 aa G (Z.bu 3)<|aT [14,15] aa G<|cw 16 aa G (Z.bu 1)<|aT [18] aa G<|cw 19 aa G (Z.bu 4)<|aT [23] aa G<|he 3 aa aj<|aM (Yh B tb U F xs n J.drew bH I) aa ?_;rintro cY bW ⟨bN,aI⟩;obtain ⟨ac,ai,rfl⟩:=cz bN;have bL:=bH.wk aI;have aR:(fun w'=>Wk J w') bW:=G.trans aI;refine ⟨aR,?_⟩;refine bP 6 aa (cV (ps:= [(0,.slice ac (bh F (flagsOf xs n) 2).length ai),(1,.int .i64 f)]) (L:= [.slice ac (bh F (flagsOf xs n) 2).length ai,.int .i64 f]) Dm aa<|aa) aR<|he 10 aa aj<|aM (Kh B tb U F xs f bW bL I) aa ?_;rintro v49 bX ⟨bQ,aK⟩;obtain ⟨a49,am,rfl⟩:=cz bQ;have ci:=bL.wk aK;have aO:(fun w'=>Wk J w') bX:=aR.trans aK;refine ⟨aO,?_⟩;refine bP 13 aa (cV (ps:= [(0,.slice a49 (bh F (bV F f) 2).length am),(1,.int .i64 s)]) (L:= [.slice a49 (bh F (bV F f) 2).length am,.int .i64 s]) Dm aa<|aa) aO<|he 17 aa aj<|aM (Wh B tb U F xs n bX ci I) aa ?_;rintro cZ cI ⟨bR,aL⟩;obtain ⟨ae,an,rfl⟩:=cz bR;have aP:(fun w'=>Wk J w') cI:=aO.trans aL;refine ⟨aP,?_⟩;refine bP 20 aa (cV (ps:= [(0,.slice ae (bh F (flagsOf xs n) 1).length an),(1,.int .i64 E)]) (L:= [.slice ae (bh F (flagsOf xs n) 1).length an,.int .i64 E]) Dm aa<|aa) aP<|he 21 aa aj<|Om [[.slice ac (bh F (flagsOf xs n) 2).length ai,.int .i64 f],[.slice a49 (bh F (bV F f) 2).length am,.int .i64 s],[.slice ae (bh F (flagsOf xs n) 1).length an,.int .i64 E]] XF aa aa aa aa fun bk aw cK aA b7=> ?_;obtain ⟨k,rfl⟩:∃ m:Nat,n=(m:Int):=⟨n.toNat,ab⟩
 obtain ⟨A,bn,bo,br⟩:∃ A:Nat→Option bF,A 0=ac∧A 1=a49∧A 2=ae:=⟨fun i=>match i with | 0=>ac | 1=>a49 | _=>ae,rfl,rfl,rfl⟩
 obtain ⟨C,b9,ca,cc⟩:∃ C:Nat→Nat,C 0=ai∧C 1=am∧C 2=an:=⟨fun i=>match i with | 0=>ai | 1=>am | _=>an,rfl,rfl,rfl⟩
 have bx:=aK.trans<|aL.trans aA.md;have O:Wk J aw:=((Md.refl (fun _=>False) J).drew.trans aI).trans bx;have cp:∀ i,i < 3→([(.slice ac (bh F (flagsOf xs k) 2).length ai,.int .i64 f),(.slice a49 (bh F (bV F f) 2).length am,.int .i64 s),(.slice ae (bh F (flagsOf xs k) 1).length an,.int .i64 E)]:List (ag×ag))[i]? =some (.slice (A i) (nv F xs k f i).length (C i),.int .i64 (qM f s E i)):=by
  intro i hi;rcases (show i=0∨i=1∨i=2 by omega) with rfl | rfl | rfl;rw [bn,b9]; rfl;rw [bo,ca]; rfl;rw [br,cc]; rfl
 have cl:∀ i,i < 3→aB aw.heap (A i) ((nv F xs k f i).map bJ):=by
  intro i hi;rcases (show i=0∨i=1∨i=2 by omega) with rfl | rfl | rfl;rw [bn]; exact (aX bN).2.wk bx;rw [bo]; exact (aX bQ).2.wk<|aL.trans aA.md;rw [br]; exact (aX bR).2.wk aA.md
 have cy:∀ i,i < 3→∀ {W:ak},Wk aw W→∀ j,j < 2→Hb.aV W.heap bk (0 +i*2 +j)=(JK (.slice (A i) (nv F xs k f i).length (C i),.int .i64 (qM f s E i)))[j]? :=fun i hi W cj=>fI (f:=JK) (m:=2) (fun _=>rfl) ((aB.dT ⟨_,b7⟩).wk cj)<|cp i hi;have cF:oc xs (k:Int)=(xs.getD k ([],[])).1:=by
  obtain ⟨x,av⟩:∃ x,xs[k]? =some x:=⟨_,bY ab⟩
  rw [(tQ av).1,cH,av]; rfl
 have cO:(oc xs (k:Int)).length≤1000:=by
  obtain ⟨x,av⟩:∃ x,xs[k]? =some x:=⟨_,bY ab⟩
  rw [(tQ av).1]; have :=(I.vG x<|gB av).1; omega
 have bG:(fun w'=>Wk J w') aw:=aP.trans aA.md;refine ⟨bG,?_⟩;refine aT [22] aa bG<|hn aj<|dz 2 aa<|lp (fun bl bf aF=> ∃ (i:Nat) (u:Tx),(i≤3)∧(kY F xs k f s E i=some u)∧(u.length≤1000 +i*32)∧(Wk aw aF)∧(bf 9=str u)∧(Sl bf [(0,bj tb),(3,bj aG),(8,.slice ar F.rules.length cr),(60,.slice (some ⟨bk,0,none⟩) 3 3),(61,.int .i64 3),(62,ay i)])∧(3 - i=bl)) _ ⟨0,oc xs (k:Int),ab,(by rw [cF]; rfl),ab,(Md.refl _ _),(by first | rfl | exact congrArg str bT),aa,aa⟩ ?_;rintro bl bf aF ⟨i,u,hi,ap,cM,Y,cD,cC,rfl⟩;refine bA cC<|fx 9 cD<|bq 6 aa<|cd aa (fun cn=> ?_) fun cn=> ?_;refine bz 5 aa ?_;have co:i < 3:=ab;refine aH 1 aa<|p (ia Rz aa aa ab)<|p (cQ NM aa (aa)<|cy i ab Y)<|e<|al ZC fun b1 c1 aS bD b3=> ?_;have cR:=bD.size;refine e<|c8 Ql aa aa aa aa (b3) (by simp) fun bd cg b8=> ?_;have cf:Wk aF bd:=bD.md.trans' cg fun q cx h=>by omega
 have aS:bO bd.heap b1 [.slice (A i) (nv F xs k f i).length (C i),.int .i64 (qM f s E i)]:=b8;have ax:=Y.trans cf;refine au 6 aa<|p (ld1 aa<|aS.bu 0)<|au 1 aa<|p (ld1 aa<|aS.bu 1)<|au 1 aa<|e<|aM (Ya F xs I ar cr rn (A i) (C i) (nv F xs k f i) (qM f s E i) u bd (bs.wk<|O.trans ax) bS ((cl i co).wk ax) (vX i) (by have :=U5 (F:=F) (xs:=xs) (k:=k) (f:=f) i; have :=I.len; omega) (by unfold qM; split <;> assumption) ab) aa ?_;rintro c0 c3 ⟨rfl,bv⟩;refine p mv<|aQ 12 aa<|cb aa (fun aY=> ?_) fun aY=> ?_;have cs:gQ F (nv F xs k f i) (qM f s E i) u=none:=by simpa using aY
 refine aJ 9 aa<|tr<|bc 2 aa<|f2 aa aa aa ?_;have cq:kY F xs k f s E 3=none:=by rw [show 3=(i+1)+(2 - i) by omega]; exact I9 (by show (kY F xs k f s E i).bind _=none; rw [ap]; exact cs) _
 exact ⟨by rw [vW ab,vY a0,cq]; rfl,ah.trans<|hE35.trans<|O.trans<|ax.trans bv⟩;obtain ⟨v,a4⟩:∃ v,gQ F (nv F xs k f i) (qM f s E i) u=some v:=nP.1<|by simpa using aY
 have cN:=X8 I (vX i) a4;have cA:kY F xs k f s E (i+1)=some v:=by show (kY F xs k f s E i).bind _=_; rw [ap]; exact a4
 have bT:(gQ F (nv F xs k f i) (qM f s E i) u).getD []=v:=by rw [a4]; rfl
 exact aH 4 aa<|p (bC<|i+1)<|aC 2 aa<|tn<|⟨_,ab,i+1,v,ab,cA,ab,(ax.trans bv),(by first | rfl | exact congrArg str bT),aa,aa⟩
 refine aJ 2 aa<|bK<|dz 4 aa ?_;obtain rfl :i=3:=ab;have a3:=Ja cm cB cv ap;refine aH 3 aa<|p (cQ oN aa (aa) fun j cL=>(Wk.B (O.trans Y) Z).bu j)<|e<|aM (SL B tb U F xs ar cr rn a6 k f s E aF (aD.wk<|hE35.trans<|O.trans Y) I (bs.wk<|O.trans Y) bS a3.1 a3.2.1 a3.2.2) aa ?_;rintro v82 c4 ⟨rfl,bw⟩;refine aQ 3 aa<|cb aa (fun a1=> ?_) fun a1=> ?_;exact aJ 8 aa<|f2 aa aa aa<|⟨by rw [vW ab,vY a0,ap,rj,if_neg (by simpa using a1)]; rfl,ah.trans<|hE35.trans<|O.trans<|Y.trans bw⟩
 exact aJ 10 aa<|f2 aa aa aa<|⟨by rw [vW ab,vY a0,ap,rj,if_pos (by simpa using a1)]; rfl,ah.trans<|hE35.trans<|O.trans<|Y.trans bw⟩
end Go.Hb
end
section
namespace Go.Hb
open Go.Hb.ki
theorem Kc {r:cJ} {v:ag} (h:v.oneCell'=true):(eS (r,v)).all Value.oneCell'=true :=by
 unfold eS;simp only [List.all_cons,List.all_nil,h];rfl
def tS (a b:bE):Bool:=if a.fst≠b.fst then decide (a.fst < b.fst) else if a.snd≠b.snd then decide (a.snd < b.snd) else decide (a.pre < b.pre)
theorem C2 (R:Nat):(nD R).Pairwise (· < ·):=by
 unfold nD;rw [List.pairwise_cons];exact ⟨fun x A=>by obtain ⟨i,_,rfl⟩:=je.1 A; omega,List.pairwise_map.2<|List.pairwise_lt_range.imp fun h=>by omega⟩
theorem C1 {R:Nat} {x:Int} (h:x∈nD R): -1≤x:=by
 rcases fi.1 h with h | h
 · omega
 · obtain ⟨i,_,rfl⟩:=je.1 h; omega
theorem uo {F:aE} {xs:List bp} {e:Nat} {f s:Int} {d:bE} (h:d∈sN F xs e f s):d.eu=e∧d.fst=f∧d.snd=s∧d.pre∈nD F.rules.length∧gW F xs e d.fst d.snd d.pre=some d.eI:=by
 obtain ⟨p,hp,h⟩:=MV.1 h;obtain ⟨u,hu,rfl⟩:=mZ.1 h;exact ⟨aa,aa,aa,hp,hu⟩
theorem Cl {F:aE} {xs:List bp} {e:Nat} {f:Int} {d:bE} (h:d∈vI F xs e f):d∈sN F xs e f d.snd∧d.snd∈nD F.rules.length:=by
 obtain ⟨s,hs,h⟩:=pG.1 h;have :=(uo h).2.2.1;subst this;exact ⟨h,hs⟩
theorem um {F:aE} {xs:List bp} {e:Nat} {d:bE} (h:d∈jX F xs e):d.eu=e∧ -1≤d.fst∧ -1≤d.snd∧ -1≤d.pre∧gW F xs e d.fst d.snd d.pre=some d.eI:=by
 rw [A2] at h;obtain ⟨f,A,h⟩:=pG.1 h;obtain ⟨h1,h2⟩:=Cl h;obtain ⟨a,b,c,d,e⟩:=uo h1;exact ⟨a,by rw [b]; exact C1 A,C1 h2,C1 d,e⟩
theorem QP (F:aE) (xs:List bp) (e:Nat):(jX F xs e).Pairwise fun a b=>tS a b=true :=by
 rw [A2,MZ];refine ⟨fun f _=> ?_,(C2 _).imp fun {a b} A x C y E=> ?_⟩
 · unfold vI;rw [MZ];refine ⟨fun s _=> ?_,(C2 _).imp fun {a b} A x C y E=> ?_⟩
   · unfold sN;rw [List.pairwise_filterMap];refine (C2 _).imp fun {a b} A x C y E=> ?_;obtain ⟨u,_,rfl⟩:=mZ.1 C;obtain ⟨v,_,rfl⟩:=mZ.1 E;unfold tS;rw [if_neg (fun h=>h rfl),if_neg (fun h=>h rfl)];exact decide_eq_true A
   · obtain ⟨_,a2,a3,_⟩:=uo C;obtain ⟨_,G,I,_⟩:=uo E;unfold tS;rw [if_neg (fun h=>h<|by rw [a2,G]),if_pos (by rw [a3,I]; omega),a3,I];exact decide_eq_true A
 · have a2:=(uo (Cl C).1).2.1;have G:=(uo (Cl E).1).2.1;unfold tS;rw [if_pos (by rw [a2,G]; omega),a2,G];exact decide_eq_true A
end Go.Hb
end
section
namespace Go.Hb.pJ
open Go.Hb.ki Go.Hb.oK
noncomputable def oS (r:cJ) (u:Tx):Option Tx:=if ib r u=true then some u else none
noncomputable def gp (r:cJ) (w:Tx):Option Tx:=
 if r.kind=2 then (if r.add.length≤w.length∧w.drop (w.length - r.add.length)=r.add then oS r (w.take (w.length - r.add.length)++r.strip) else none)
 else if r.kind=1 then (if w.take r.add.length=r.add then oS r (r.strip++w.drop r.add.length) else none)
 else none
section
variable {r:cJ} {s u w:Tx}
theorem YW (hk:r.kind=2):gp r s=if decide (r.add.length≤s.length∧s.drop (s.length - r.add.length)=r.add)=true then oS r (ly s r.add++r.strip) else none:=by
 unfold gp ly;rw [if_pos hk];by_cases h:r.add.length≤s.length∧s.drop (s.length - r.add.length)=r.add
 · rw [if_pos h,if_pos h,decide_eq_true h,if_pos rfl]
 · rw [if_neg h,decide_eq_false h]; rfl
theorem YV (hk:r.kind=1):gp r s=if decide (s.take r.add.length=r.add)=true then oS r (r.strip++gn s r.add) else none:=by
 unfold gp gn;rw [if_neg ab,if_pos hk];by_cases h:s.take r.add.length=r.add
 · rw [if_pos h,if_pos h,decide_eq_true h,if_pos rfl]
 · rw [if_neg h,decide_eq_false h]; rfl
theorem YU (h1:r.kind≠1) (h2:r.kind≠2):gp r s=none:=by unfold gp; rw [if_neg h2,if_neg h1]
theorem FF {v:Tx} (h:oS r u=some v):v=u:=by unfold oS at h; split at h <;> cases h; rfl
theorem Li {v:Tx} (h:gp r s=some v):v.length≤s.length+r.strip.length:=by
 unfold gp at h;split at h
 · split at h
   · rw [FF h,bG,dJ]; omega
   · cases h
 · split at h
   · split at h
     · rw [FF h,bG,fP]; omega
     · cases h
   · cases h
theorem DH (hk:r.kind=1∨r.kind=2) (h:eE r u=some w):gp r w=some u:=by
 have A:ib r u=true :=by
  cases A:ib r u with
  | true =>rfl
  | false =>rw [AD A] at h; cases h
 obtain ⟨G,h2,h1⟩:=vL A;by_cases C:r.kind=2
 · rw [E9 A C] at h;cases h;have h3:=h2 C;unfold gp;have el:(u.take (u.length - r.strip.length)++r.add).length - r.add.length=(u.take<|u.length - r.strip.length).length:=by rw [bG]; omega
   rw [if_pos C,el,MC,M3,if_pos ⟨by rw [bG]; omega,rfl⟩];have E:u.take (u.length - r.strip.length)++r.strip=u:=by
    conv =>lhs; rhs; rw [← h3]
    exact Aj _ _
   rw [E]; unfold oS; rw [if_pos A]
 · rw [E8 A C] at h;cases h;have h3:=h1 C;unfold gp;rw [if_neg C,if_pos (hk.resolve_right C),M3,if_pos rfl,MC];have E:r.strip++u.drop r.strip.length=u:=by
    conv =>lhs; lhs; rw [← h3]
    exact Aj _ _
   rw [E]; unfold oS; rw [if_pos A]
end
section
variable (F:aE) (xs:List bp) (w:Tx)
def oo (stem:Tx) (f s p:Int) (d:bE):Prop := ∃ n x,xs[n]? =some x∧x.1=stem∧d=⟨w,n,f,s,p⟩∧gW F xs n f s p=some w
def fE (n z:Nat):List Nat:=(gT n).filter fun i=>decide (z∈bh F (bV F (i:Int)) 2)
def oR (word:Tx) (p:Int) (k:Nat) (d:bE):Prop :=oo F xs w word (-1) (-1) p d∨
 ∃ i r,i < k∧F.rules[i]? =some r∧r.kind=2∧∃ st,gp r word=some st∧(oo F xs w st i (-1) p d∨∃ f∈fE F F.rules.length i,∃ rt,gp (F.rules.getD f dF) st=some rt∧oo F xs w rt f i p d)
def pd (k:Nat) (d:bE):Prop :=oR F xs w w (-1) F.rules.length d∨∃ i r,i < k∧F.rules[i]? =some r∧r.kind=1∧∃ rest,gp r w=some rest∧oR F xs w rest i F.rules.length d
variable {F xs w}
theorem QO {e:Nat} {f s p:Int} {u:Tx} (A:Rn F f) (hs:Rn F s) (hp:Rn F p) (h:gW F xs e f s p=some u):(⟨u,e,f,s,p⟩:bE)∈jX F xs e:=by
 have rm:∀ {n:Int},Rn F n→n∈nD F.rules.length:=fun {n} hn=>by
  rcases hn with h | h
  · exact fi.2<|.inl h
  · exact fi.2<|.inr<|je.2 ⟨n.toNat,qi.2 ab,ab⟩
 rw [A2];refine pG.2 ⟨f,rm A,pG.2 ⟨s,rm hs,MV.2 ⟨p,rm hp,?_⟩⟩⟩;rw [h]; rfl
theorem U6 {e:Nat} {f s p:Int} {u:Tx} (C: -1≤f) (hs: -1≤s) (hp: -1≤p) (h:gW F xs e f s p=some u):Rn F f∧Rn F s∧Rn F p:=by
 have A:¬(f= -1∧s≠ -1):=fun A=>by rw [Cq A] at h; cases h
 rw [vY A] at h;obtain ⟨v,E,_⟩:=sB.1 h;exact Ja C hs hp E
theorem vV {n:Nat} {d:bE} :d∈kB F xs n↔∃ e,e < n∧d∈jX F xs e:=by
 unfold kB;rw [pG];exact ⟨fun ⟨e,h,h1⟩=>⟨e,qi.1 h,h1⟩,fun ⟨e,h,h1⟩=>⟨e,qi.2 h,h1⟩⟩
theorem Ch {stem:Tx} {f s p:Int} {d:bE} (A: -1≤f) (hs: -1≤s) (hp: -1≤p) (h:oo F xs w stem f s p d):d∈kB F xs xs.length∧d.eI=w:=by
 obtain ⟨n,x,C,_,rfl,hm⟩:=h;obtain ⟨h1,h2,h3⟩:=U6 A hs hp hm;exact ⟨vV.2 ⟨n,(ff.1 C).1,QO h1 h2 h3 hm⟩,aa⟩
theorem FB {word:Tx} {p:Int} {k:Nat} {d:bE} (hp: -1≤p) (h:oR F xs w word p k d):d∈kB F xs xs.length∧d.eI=w:=by
 rcases h with h | ⟨i,r,_,_,_,st,_,h | ⟨f,_,rt,_,h⟩⟩
 · exact Ch ab ab hp h
 · exact Ch ab ab hp h
 · exact Ch ab ab hp h
theorem zq {L:List Nat} {n:Int} {u v:Tx} (hn: -1≤n) (h:gQ F L n u=some v):(n= -1∧v=u)∨∃ m:Nat,n=(m:Int)∧m∈L∧eE (F.rules.getD m dF) u=some v:=by
 unfold gQ at h;by_cases h1:n= -1
 · rw [if_pos h1] at h; cases h; exact .inl ⟨h1,rfl⟩
 · rw [if_neg h1] at h;by_cases h2:n.toNat∈L
   · rw [if_pos h2] at h; exact .inr ⟨n.toNat,ab,h2,h⟩
   · rw [if_neg h2] at h; cases h
theorem Db {m:Nat} (h:m < F.rules.length):F.rules[m]? =some (F.rules.getD m dF):=by
 rw [cH,bY h]; rfl
theorem OR {n:Nat} {x:bp} {f s p:Int} {E:Tx} (C:xs[n]? =some x) (Y: -1≤f) (hs: -1≤s) (J:¬(f= -1∧s≠ -1)) (h2:kY F xs n f s p 2=some E) (hm:gW F xs n f s p=some w):
 oR F xs w E p F.rules.length ⟨w,n,f,s,p⟩:=by
 obtain ⟨G,h1,h2⟩:=sB.1 (show (kY F xs n f s p 1).bind _=some E from h2);obtain ⟨ac,I,h1⟩:=sB.1 (show (kY F xs n f s p 0).bind _=some G from h1);cases I;have ab:(xs.getD n ([],[])).1=x.1:=by rw [cH,C]; rfl
 rw [ab] at h1;have kd:∀ {fs:List Nat} {m:Nat},m∈bh F fs 2→m < F.rules.length∧(F.rules.getD m dF).kind=2:=fun h=>⟨(oq.1 h).1,(oq.1 h).2.1⟩
 rcases zq Y h1 with ⟨rfl,rfl⟩ | ⟨i,rfl,hi,O⟩
 · obtain rfl :s= -1:=tj fun h=>J ⟨rfl,h⟩;rcases zq hs h2 with ⟨_,rfl⟩ | ⟨m,h,_⟩
   · exact .inl ⟨n,x,C,aa,aa,hm⟩
   · omega
 · have hi:i∈bh F (flagsOf xs n) 2:=hi;have hu:=DH (.inr (kd hi).2) O;rcases zq hs h2 with ⟨rfl,rfl⟩ | ⟨z,rfl,A,V⟩
   · exact .inr ⟨i,_,(kd hi).1,Db (kd hi).1,(kd hi).2,x.1,hu,.inl ⟨n,x,C,aa,aa,hm⟩⟩
   · have A:z∈bh F (bV F (i:Int)) 2:=A;have Z:=DH (.inr (kd A).2) V;exact .inr ⟨z,_,(kd A).1,Db (kd A).1,(kd A).2,G,Z,.inr ⟨i,qh.2 ⟨qi.2 (kd hi).1,decide_eq_true A⟩,x.1,hu,n,x,C,aa,aa,hm⟩⟩
theorem Kg (d:bE):pd F xs w F.rules.length d↔d∈kB F xs xs.length∧d.eI=w:=by
 constructor
 · rintro (h | ⟨i,r,_,_,_,rest,_,h⟩)
   · exact FB ab h
   · exact FB ab h
 · rintro ⟨hd,hw⟩;obtain ⟨e,he,hd⟩:=vV.1 hd;obtain ⟨G,I,hs,hp,hm⟩:=um hd;obtain ⟨Z,en,f,s,p⟩:=d;simp only at G I hs hp hm hw;subst G;subst hw;obtain ⟨x,Y⟩:∃ x,xs[en]? =some x:=⟨_,bY he⟩
   have A:¬(f= -1∧s≠ -1):=fun A=>by rw [Cq A] at hm; cases hm
   have J:=hm;rw [vY A] at J;obtain ⟨v,V,C⟩:=sB.1 J;split at C
   case isFalse=>cases C
   cases C;obtain ⟨aa,h2,h3⟩:=sB.1 (show (kY F xs en f s p 2).bind _=some Z from V);have E:=OR Y I hs A h2 hm;rcases zq hp h3 with ⟨rfl,rfl⟩ | ⟨i,rfl,hi,O⟩
   · exact .inl E
   · have hi:i∈bh F (flagsOf xs en) 1:=hi;exact .inr ⟨i,_,(oq.1 hi).1,Db (oq.1 hi).1,(oq.1 hi).2.1,aa,DH (.inl (oq.1 hi).2.1) O,E⟩
end
theorem Qh (s pr:List UInt8) (w:ak) (hs:s.length≤1099511627776) (hp:pr.length≤1099511627776):
 ba az 162 (a7 [str s,str pr]) w (fun v w'=>v= .tuple #[str (ly s pr),.bool (decide (pr.length≤s.length∧s.drop (s.length - pr.length)=pr))]∧Wk w w'):=by
 refine enter func162 aa ntmps162 aa<|bg 11 aa<|e<|aM (yw s pr _ hs hp) aa ?_;rintro G I ⟨rfl,E⟩;refine aQ 3 aa<|cb aa (fun A=> ?_) fun A=> ?_;have C:¬(pr.length≤s.length∧s.drop (s.length - pr.length)=pr):=fun h=>by rw [decide_eq_true h] at A; cases A
 exact aJ 9 aa<|f2 aa aa aa<|⟨by unfold ly; rw [if_neg C,decide_eq_false C]; rfl,E⟩
 have C:pr.length≤s.length∧s.drop (s.length - pr.length)=pr:=tj fun h=>by rw [decide_eq_false h] at A; cases A
 exact aH 9 aa<|p (dQ<|s.length - pr.length)<|p (r6 u9 aa aa ab)<|aC 5 aa<|f2 aa aa aa<|⟨by unfold ly; rw [if_pos C,decide_eq_true C]; rfl,E⟩
theorem Qi (s pr:List UInt8) (w:ak) (hs:s.length≤1099511627776) (hp:pr.length≤1099511627776):
 ba az 102 (a7 [str s,str pr]) w (fun v w'=>v= .tuple #[str (ly s pr),.bool (decide (pr.length≤s.length∧s.drop (s.length - pr.length)=pr))]∧Wk w w'):=by
 refine enter func102 aa ntmps102 aa<|bg 10 aa<|e<|aM (Qh s pr _ hs hp) aa ?_;rintro C E ⟨rfl,A⟩;exact aC 7 aa<|f2 aa aa aa<|⟨aa,A⟩
theorem DI (r:cJ) (u:ag) (s:Tx) (w:ak) (aE:r.strip.length≤32) (aq:r.add.length≤1048576) (av:r.cond.length≤1048576) (aF:s.length≤16777216):
 ba az 59 (a7 [.agg (eS (r,u)).toArray,str s]) w (fun v w'=>v=wj (gp r s)∧Wk w w'):=by
 refine enter func59 aa ntmps59 aa<|bg 2 aa<|e<|iL aa fun J Z ax V am=> ?_;have aD:((r,u):cJ×ag).1.strip.length=r.strip.length:=rfl;have aB:((r,u):cJ×ag).1.kind=r.kind:=rfl;have aA:((r,u):cJ×ag).1.add.length=r.add.length:=rfl;have C:bO Z.heap J (eS (r,u)):=am;have aK:(ly s r.add).length≤s.length:=by unfold ly; split <;> simp <;> omega
 have aI:(gn s r.add).length≤s.length:=by unfold gn; split <;> simp
 refine aQ 14 aa ?_;refine ei (fun al I=> ∃ (sm:Tx) (ok:Bool),(gp r s=if ok=true then oS r sm else none)∧(sm.length≤s.length+r.strip.length)∧(Wk w I)∧(bO I.heap J<|eS (r,u))∧(Sl al [(2,bj J),(6,str sm),(7,.bool ok)])) ?_ ?_;refine bg 3 aa<|p (ld1 aa<|C.bu 0)<|aQ 9 aa<|cd aa (fun ap=> ?_) fun ap=> ?_;refine aH 2 aa<|p mv<|au 1 aa<|p (ld1 aa<|C.bu 4)<|e<|aM (Qi s r.add Z ab ab) aa ?_;rintro aL aO ⟨rfl,ac⟩;have ai:=Wk.B ac C;exact p mv<|au 9 aa<|p (ld1 aa<|ai.bu 3)<|p (cc aa aa ab)<|aC 3 aa<|tn<|⟨ly s r.add++r.strip,_,(YW ab),(by rw [bG]; omega),(V.md.trans ac),ai,aa⟩
 refine bz 6 aa<|cd aa (fun ao=> ?_) fun ao=> ?_;refine aH 2 aa<|p mv<|au 1 aa<|p (ld1 aa<|C.bu 4)<|e<|aM (F3 s r.add Z ab ab) aa ?_;rintro aN aP ⟨rfl,ae⟩;have aj:=Wk.B ae C;exact p mv<|au 8 aa<|p (ld1 aa<|aj.bu 3)<|au 1 aa<|p (cc aa aa ab)<|aC 3 aa<|tn<|⟨r.strip++gn s r.add,_,(YV ab),(by rw [bG]; omega),(V.md.trans ae),aj,aa⟩
 exact aJ 2 aa<|tn<|⟨[],false,(YU ab ab),(gY _),V.md,C,aa⟩
 rintro al I ⟨sm,ok,A,aG,O,an,aw⟩;refine bA aw<|aH 6 aa<|gb (t:=38) aa (fun G=> ?_) fun G=> ?_;refine aC 16 aa<|f2 aa aa aa ?_;have E:ok=false :=by simpa using G
 rw [E] at A;exact ⟨by rw [A]; rfl,O⟩;refine bI aa (cQ lI aa (aa) fun j ay=>an.bu j)<|au 1 aa<|eg aa aa aa<|aM (Hh r u sm I ab aq av ab) aa ?_;rintro v41 aR ⟨rfl,ah⟩;refine aQ 4 aa<|cb aa (fun Y=> ?_) fun Y=> ?_;refine aJ 8 aa<|f2 aa aa aa ?_;have E:ok=true :=by simpa using G
 rw [E,if_pos rfl] at A;unfold oS at A;exact ⟨by rw [A,if_neg (by simpa using Y)]; rfl,O.trans ah⟩;refine aJ 10 aa<|f2 aa aa aa ?_;have E:ok=true :=by simpa using G
 rw [E,if_pos rfl] at A;unfold oS at A;exact ⟨by rw [A,if_pos (by simpa using Y)]; rfl,O.trans ah⟩
end Go.Hb.pJ
end
section
namespace Go.Hb
open Go.Hb.ki Go.Hb.pJ
theorem A8 {a b:bE} (h:a.eI=b.eI∧a.eu=b.eu∧a.fst=b.fst∧a.snd=b.snd∧a.pre=b.pre):a=b:=by
 obtain ⟨s,e,f,g,p⟩:=a;obtain ⟨G,A,C,E,p'⟩:=b;obtain ⟨h1,h2,h3,h4,h5⟩:=h;simp only at h1 h2 h3 h4 h5;subst h1 h2 h3 h4 h5;rfl
instance ZY:DecidableEq bE:=fun a b=>decidable_of_iff (a.eI=b.eI∧a.eu=b.eu∧a.fst=b.fst∧a.snd=b.snd∧a.pre=b.pre) ⟨A8,fun h=>by subst h; exact ⟨rfl,rfl,rfl,rfl,rfl⟩⟩
def eO (d:bE):ag:= .agg (dS d).toArray
def qJ (v:ag):Prop := ∃ d,v=eO d
theorem Yb {a b:Tx} (h:str a=str b):a=b:=by unfold str at h; simpa using h
theorem B6 {a b:bE} (h:eO a=eO b):a=b:=by
 unfold eO dS at h;injection h with h
 have h:([str a.eI,.int .i64 (a.eu:Nat),.int .i64 a.fst,.int .i64 a.snd,.int .i64 a.pre]:List ag)= [str b.eI,.int .i64 (b.eu:Nat),.int .i64 b.fst,.int .i64 b.snd,.int .i64 b.pre]:=congrArg Array.toList h;simp only [List.cons.injEq,Value.int.injEq,true_and,and_true] at h;obtain ⟨h1,h2,h3,h4,h5⟩:=h;exact A8 ⟨Yb h1,ab,h3,h4,h5⟩
theorem Rm (a b:bE) (w:ak):(Op.equal 49 (eO a)<|eO b).run az w= .ok (decide (a=b)) w:=by
 have h:=GJ a.eI b.eI a.eu a.fst a.snd a.pre b.eu b.fst b.snd b.pre w;rw [run_eql_struct] at h;have e:(Op.equal 49 (eO a)<|eO b)=q7 10000 49 (eO a) (eO b):=rfl;rw [e];show (q7 10000 49 (.agg (dS a).toArray)<|.agg (dS b).toArray).run az w=_;unfold dS;generalize (q7 10000 49 _ _).run az w=X at h;have hd:decide (a.eI=b.eI∧(a.eu:Int)=b.eu∧a.fst=b.fst∧a.snd=b.snd∧a.pre=b.pre)=decide (a=b):=by
  exact decide_eq_decide.2 ⟨fun ⟨h1,h2,h3,h4,h5⟩=>A8 ⟨h1,ab,h3,h4,h5⟩,fun h=>by subst h; exact ⟨aa,aa,aa,aa,aa⟩⟩
 rw [hd] at h;cases X with
 | ok c w'=>
   have h:Result.ok (bR c) w'= .ok (.bool<|decide (a=b)) w:=h;injection h with h1 h2
   injection h1 with h1
   subst h1 h2;rfl
 | halt a b=>cases h
theorem yZ {P:Program} {t:TypeId} {cs:Array ag} {o:Nat} {v:ag} {q:IntKind} (A:P.underlying t=some (.int q)) (C:cs[o]? =some v) (w:ak):(part t cs o).run P w= .ok v w:=by
 simp [part,isAgg,dV A,C]
theorem O2 (em:Bool) (d:bE) (w:ak):(pw em 10000 49<|eO d).run az w= .ok () w:=by
 have E:=Ec;have C:=underlying9;have A:=underlying3;have G:∀ w,(part 9 #[str d.eI,.int .i64 (d.eu:Nat),.int .i64 d.fst,.int .i64 d.snd,.int .i64 d.pre] 0).run az w= .ok (str d.eI) w:=fun w=>VZ C rfl rfl w;have I:∀ w,(part 3 #[str d.eI,.int .i64 (d.eu:Nat),.int .i64 d.fst,.int .i64 d.snd,.int .i64 d.pre] 1).run az w= .ok (.int .i64 (d.eu:Nat)) w:=fun w=>yZ A rfl w;have J:∀ w,(part 3 #[str d.eI,.int .i64 (d.eu:Nat),.int .i64 d.fst,.int .i64 d.snd,.int .i64 d.pre] 2).run az w= .ok (.int .i64 d.fst) w:=fun w=>yZ A rfl w;have O:∀ w,(part 3 #[str d.eI,.int .i64 (d.eu:Nat),.int .i64 d.fst,.int .i64 d.snd,.int .i64 d.pre] 3).run az w= .ok (.int .i64 d.snd) w:=fun w=>yZ A rfl w;have V:∀ w,(part 3 #[str d.eI,.int .i64 (d.eu:Nat),.int .i64 d.fst,.int .i64 d.snd,.int .i64 d.pre] 4).run az w= .ok (.int .i64 d.pre) w:=fun w=>yZ A rfl w;show (pw em (9998 +1 +1) 49<|.agg #[str d.eI,.int .i64 (d.eu:Nat),.int .i64 d.fst,.int .i64 d.snd,.int .i64 d.pre]).run az w=_;rw [pw];simp only [oF,dV E,oE];rw [← Array.forIn_toList];simp only [List.forIn_cons,List.forIn_nil,oF,G,I,J,O,V,ne_eq,String.reduceEq,not_false_eq_true,if_true,oE,FD C,OT A,q8]
theorem findD:∀ (es:List MapEntry) (w:ak) (d:bE) (i:Nat),(∀ e∈es,qJ e.key)→
 ((tp 49 (eO d) es i).run az w= .ok none w∧∀ e∈es,e.key≠eO d)∨∃ j e,(tp 49 (eO d) es i).run az w= .ok (some (i+j,e.val)) w∧es[j]? =some e∧e.key=eO d
 | [],w,d,i,_=> .inl ⟨by simp [tp],fun _ h=>by simp at h⟩
 | e::es,w,d,i,hk=>by
   obtain ⟨g,E⟩:=hk e<|by simp
   have he:=Rm d g w;rw [← E] at he;by_cases A:d=g
   · subst A;refine .inr ⟨0,e,?_,aa,E⟩;simp [tp,he]
   · have I:e.key≠eO d:=by rw [E]; exact fun h=>A (B6 h).symm
     rcases findD es w d (i+1) (fun e he=>hk e<|by simp [he]) with ⟨h1,h2⟩ | ⟨j,C,h1,h2,h3⟩
     · refine .inl ⟨by simp [tp,he,A,h1],fun C G=> ?_⟩;rcases fi.1 G with rfl | G
       · exact I
       · exact h2 C G
     · refine .inr ⟨j+1,C,?_,h2,h3⟩;simp only [tp,oF,he,A,oE,decide_false,Sem.run_ite,Bool.false_eq_true,if_false,h1]; rw [show i+1 +j=i+(j+1) from by omega]
theorem Uf:vo az 49 qJ where
 check em w v hv:=by obtain ⟨d,rfl⟩:=hv; exact O2 em d w
 find w x es hx hes:=by
  obtain ⟨d,rfl⟩:=hx;have C:=Ec;have E:es≠[]→(tq 49 (eO d) es).run az w=(tp 49 (eO d) es).run az w:=by
   intro A;cases es with
   | nil=>exact absurd rfl A
   | cons e es=>simp [tq,dV C,tt,Instr.sameNow,eO]
  by_cases A:es= []
  · subst A; exact .inl ⟨by simp [tq,dV C,tt],fun _ h=>by simp at h⟩
  · rw [E A];rcases findD es w d 0 hes with h1 | ⟨j,e,h1,h2,h3⟩
    · exact .inl h1
    · exact .inr ⟨j,e,by rw [h1,Nat.zero_add],h2,h3⟩
theorem Iy:mD az 49 qJ where
 key:=Uf
 stays w v hv:=by obtain ⟨d,rfl⟩:=hv; simp [Instr.keyThatStays,Instr.sameBits,eO,dS,str,AH]
def kz (h:Array Obj) (b:Nat) (S:bE→Prop):Prop := ∃ f,lG h b qJ f∧(∀ d,(f<|eO d).isSome=true↔S d)∧∀ k v,f k=some v→∃ n:Int,v= .int .i64 n
theorem kz.md {G:Nat→Prop} {w w':ak} {b:Nat} {S:bE→Prop} (h:kz w.heap b S) (hm:Md G w w') (A:¬G b):kz w'.heap b S:=let ⟨f,h1,h2⟩:=h; ⟨f,h1.md hm A,h2⟩
theorem kz.congr {h:Array Obj} {b:Nat} {S A:bE→Prop} (hm:kz h b S) (he:∀ d,A d↔S d):kz h b A:=let ⟨f,h1,h2,h3⟩:=hm; ⟨f,h1,fun d=>(h2 d).trans (he d).symm,h3⟩
theorem kz.put {h:Array Obj} {b:Nat} {S:bE→Prop} {f:ag→Option ag} {d:bE} {v:ag} {n:Int} (h2:∀ d,(f<|eO d).isSome=true↔S d) (h3:∀ k v,f k=some v→∃ n:Int,v= .int .i64 n) (hm:lG h b qJ (bM (bM f (eO d) v) (eO d)<|.int .i64 n)):kz h b (fun x=>S x∨x=d):=by
 refine ⟨_,hm,fun x=> ?_,fun k u hu=> ?_⟩
 · by_cases A:x=d
   · subst A; rw [ow]; exact ⟨fun _=> .inr rfl,fun _=>rfl⟩
   · have hk:eO x≠eO d:=fun h=>A<|B6 h;rw [me hk,me hk,h2];exact ⟨.inl,fun h=>h.resolve_right A⟩
 · by_cases hk:k=eO d
   · subst hk; rw [ow] at hu; cases hu; exact ⟨n,rfl⟩
   · rw [me hk,me hk] at hu; exact h3 k u hu
def xD (h:Array Obj) (b:Nat) (kx zv v:ag):Prop := ∃ g,cR h b qJ g∧(g kx).getD zv=v
section
variable {P:Program} {N:Fm} {σ:Nat→ag} {w:ak} {dst:Option Nat} {ty:TypeId} {pos :String} {af:Array Edge} {g:Option (Nat×Bool)} {x y:Operand}
theorem UB {t e:TypeId} {b:Nat} {kx v zv:ag} (A:az.underlying t=some (.map 49 e)) (G:zeroV az e=some zv) (hm:xD w.heap b kx zv v) (C:ev N σ x= .map (some b)) (E:ev N σ y=kx) (hi:qJ kx):
 (execOp (ev N σ) ⟨dst,.lookup t x y false,ty,pos,af,g⟩).run az w= .ok (.value v) w:=by
 obtain ⟨f,h1,h2⟩:=hm;exact mL A G Iy h1 C E hi h2
end
def EG (w:ak) (fm:Nat) (F:aE):Prop := ∃ f,cR w.heap fm (kV .i64) f∧∀ z:Nat,z < F.rules.length→∃ a c B,(f<|.int .i64 (z:Nat)).getD (.slice none 0 0)= .slice a (fE F F.rules.length z).length c∧bo w B 3 1 (.slice a (fE F F.rules.length z).length c) (fE F F.rules.length z).length ((fE F F.rules.length z).map bJ)
def Kt (tb:Nat) (F:aE) (ar:Option bF) (cr fm dm:Nat):List ag:= [.pointer (some ⟨tb,0,none⟩),.slice ar F.rules.length cr,.map (some fm),.map (some dm)]
structure k8 (w0 wB:ak) (B kb tb:Nat) (U:gE) (F:aE) (xs:List bp) (ar:Option bF) (cr:Nat) (rn:List ag) (fm dm:Nat):Prop where
 Yv:fS w0 B tb U F xs
 wk:Wk w0 wB
 lo:w0.heap.size≤dm
 cells:wB.heap[kb]? =some (.cells (Kt tb F ar cr fm dm).toArray 132 (0,0))
 ru:∃ B',bo wB B' 134 7 (.slice ar F.rules.length cr) F.rules.length (iw<|F.rules.zip rn)
 WX:rn.length=F.rules.length
 ro:∀ u∈rn,u.oneCell'=true
 fs:EG wB fm F
 ne:fm≠dm
 Gt:∃ es c,wB.heap[dm]? =some (.map es c)
section
variable {w0 wB w:ak} {B kb tb:Nat} {U:gE} {F:aE} {xs:List bp} {ar:Option bF} {cr:Nat} {rn:List ag} {fm dm:Nat}
theorem k8.tf (h:k8 w0 wB B kb tb U F xs ar cr rn fm dm):TF wB [1] (fun k=>k=dm):=TF.eq (by obtain ⟨es,c,h1⟩:=h.Gt; unfold tag; rw [h1]) aw
theorem k8.at (h:k8 w0 wB B kb tb U F xs ar cr rn fm dm) (hm:Md (fun k=>k=dm) wB w):w.heap[kb]? =some (.cells (Kt tb F ar cr fm dm).toArray 132 (0,0)):=hm.iK h.tf h.cells aw
theorem k8.rules (h:k8 w0 wB B kb tb U F xs ar cr rn fm dm) (hm:Md (fun k=>k=dm) wB w):aB w.heap ar (iw<|F.rules.zip rn):=by
 obtain ⟨B',h1⟩:=h.ru;exact (aX<|cj h1 hm h.tf aw).2
theorem k8.Dy (h:k8 w0 wB B kb tb U F xs ar cr rn fm dm) (hm:Md (fun k=>k=dm) wB w):fS w B tb U F xs:=h.Yv.wk<|h.wk.trans' hm fun k hk h2=>by have :=h.lo; omega
theorem k8.fE (h:k8 w0 wB B kb tb U F xs ar cr rn fm dm) (hm:Md (fun k=>k=dm) wB w):EG w fm F:=by
 obtain ⟨f,h1,h2⟩:=h.fs;refine ⟨f,h1.md hm h.ne,fun z A=> ?_⟩;obtain ⟨a,c,B,h3,h4⟩:=h2 z A;exact ⟨a,c,B,h3,cj h4 hm h.tf aw⟩
theorem k8.lt (h:k8 w0 wB B kb tb U F xs ar cr rn fm dm):dm < wB.heap.size:=by obtain ⟨es,c,h1⟩:=h.Gt; exact (dD.1 h1).1
theorem k8.jm (h:k8 w0 wB B kb tb U F xs ar cr rn fm dm) {k:Nat} {r:cJ} (A:F.rules[k]? =some r):∃ u,(F.rules.zip rn)[k]? =some (r,u):=by
 have hk:=(ff.1 A).1;have C:k < rn.length:=by rw [h.WX]; exact hk
 exact ⟨rn[k],j7.2 ⟨A,bY C⟩⟩
end
theorem Cn {s:Tx} {xs:List bp} {n:Nat} :n∈idxs s xs↔∃ x,xs[n]? =some x∧x.1=s:=by
 unfold idxs;rw [qh,qi,decide_eq_true_iff];constructor
 · rintro ⟨h1,h2⟩;refine ⟨xs[n],bY h1,?_⟩;rw [cH,bY h1] at h2; exact h2
 · rintro ⟨x,A,rfl⟩;exact ⟨(ff.1 A).1,by rw [cH,A]; rfl⟩
def pU (F:aE) (xs:List bp) (wd stem:Tx) (f s p:Int) (S:bE→Prop) (i:Nat) (d:bE):Prop :=S d∨∃ j,j < i∧d=⟨wd,(idxs stem xs).getD j 0,f,s,p⟩∧gW F xs ((idxs stem xs).getD j 0) f s p=some wd
section
variable {F:aE} {xs:List bp} {wd stem:Tx} {f s p:Int} {S:bE→Prop} {i:Nat}
theorem Uy (h:gW F xs ((idxs stem xs).getD i 0) f s p=some wd) (d:bE):pU F xs wd stem f s p S (i+1) d↔(pU F xs wd stem f s p S i d∨d=⟨wd,(idxs stem xs).getD i 0,f,s,p⟩):=by
 unfold pU;constructor
 · rintro (h1 | ⟨j,A,h1,h2⟩)
   · exact .inl<|.inl h1
   · rcases pI.1 A with A | rfl
     · exact .inl<|.inr ⟨j,A,h1,h2⟩
     · exact .inr h1
 · rintro ((h1 | ⟨j,A,h1⟩) | h1)
   · exact .inl h1
   · exact .inr ⟨j,ab,h1⟩
   · exact .inr ⟨i,ab,h1,h⟩
theorem IM (h:gW F xs ((idxs stem xs).getD i 0) f s p≠some wd) (d:bE):pU F xs wd stem f s p S (i+1) d↔pU F xs wd stem f s p S i d:=by
 unfold pU;constructor
 · rintro (h1 | ⟨j,A,h1,h2⟩)
   · exact .inl h1
   · rcases pI.1 A with A | rfl
     · exact .inr ⟨j,A,h1,h2⟩
     · exact absurd h2 h
 · rintro (h1 | ⟨j,A,h1⟩)
   · exact .inl h1
   · exact .inr ⟨j,ab,h1⟩
theorem Ux (d:bE):pU F xs wd stem f s p S (idxs stem xs).length d↔(S d∨oo F xs wd stem f s p d):=by
 unfold pU oo;constructor
 · rintro (h | ⟨j,A,h1,h2⟩)
   · exact .inl h
   · obtain ⟨x,C,hs⟩:=Cn.1<|dR (d:=0) A;exact .inr ⟨_,x,C,hs,h1,h2⟩
 · rintro (h | ⟨n,x,C,hs,h1,h2⟩)
   · exact .inl h
   · obtain ⟨j,A,e⟩:=mM 0<|Cn.2 ⟨x,C,hs⟩;exact .inr ⟨j,A,by rw [e]; exact h1,by rw [e]; exact h2⟩
end
theorem Ci (w0 wB:ak) (B kb tb:Nat) (U:gE) (F:aE) (xs:List bp) (ar:Option bF) (cr:Nat) (rn:List ag) (fm dm:Nat) (I:k8 w0 wB B kb tb U F xs ar cr rn fm dm) (aR:ec F xs) (wd stem:Tx) (aO:Nat) (f s pp:Int) (S:bE→Prop) (w:ak) (hm:Md (fun k=>k=dm) wB w) (bn:kz w.heap dm S) (bB: -1≤f) (hs: -1≤s) (bR: -1≤pp):
 ba az 101 (a7 [bj kb,str stem,.agg [str wd,ay aO,.int .i64 f,.int .i64 s,.int .i64 pp].toArray]) w (fun v w'=>v= .tuple #[]∧kz w'.heap dm (fun d=>S d∨oo F xs wd stem f s pp d)∧Md (fun k=>k=dm) w w'):=by
 have b2:=aR.xl;have b0:=I.lt;have b1:=hm.size;have bY:(idxs stem xs).length≤xs.length:=by unfold idxs; exact e7 (qg _ _)<|by simp
 refine enter func101 aa ntmps101 aa<|bg 2 aa<|e<|nU aa fun O av bX ai bh=> ?_;have b4:=ai.size;have am:Md (fun k=>k=dm) wB av:=hm.trans' ai.md fun _ _ h=>h.elim;have bw:av.heap[O]? =some (.cells [str wd,.int .i64 ((aO:Nat):Int),.int .i64 f,.int .i64 s,.int .i64 pp].toArray 49 (0,0)):=bh;have bs:=bn.md ai.md id;refine au 4 aa<|p mv<|au 2 aa<|p (ld1 aa<|(a8<|I.at am).trans aa)<|au 2 aa<|p (ld1 aa<|(a8 (I.Dy am).cells).trans aa)<|p mv<|e<|aM (QQ B U.wb U.mb U.va U.vs xs av (I.Dy am).wd ab stem) aa ?_;rintro b5 b6 ⟨bb,Y⟩;obtain ⟨aL,aN,rfl⟩:=cz bb;have bm:=ai.md.trans Y;have b3:=Y.size;refine aQ 5 aa<|lp (fun aP bd J=> ∃ (i:Nat) (en:Int),(i≤(idxs stem xs).length)∧(Md (fun k=>k=dm) wB J)∧(Md (fun k=>k=dm) w J)∧(kz J.heap dm<|pU F xs wd stem f s pp S<|i)∧(J.heap[O]? =some (.cells [str wd,.int .i64 en,.int .i64 f,.int .i64 s,.int .i64 pp].toArray 49 (0,0)))∧(bo J av.heap.size 3 1 (.slice aL (idxs stem xs).length aN) (idxs stem xs).length<|(idxs stem xs).map bJ)∧(Sl bd [(0,bj kb),(5,bj O),(18,.slice aL (idxs stem xs).length aN),(19,ay ((idxs stem xs).length)),(20,ay i)])∧((idxs stem xs).length - i=aP)) _ ⟨0,_,ab,(am.trans' Y fun _ _ h=>h.elim),(bm.mono fun _ _ h=>h.elim),((bs.md Y id).congr fun d=>⟨fun h=>h.resolve_right (fun ⟨j,a4,_⟩=>by omega),.inl⟩),(Wk.bl Y bw),bb,aa,aa⟩ ?_;rintro aP bd J ⟨i,en,hi,bH,a5,aS,bz,ap,bT,rfl⟩;refine bA bT<|bq 6 aa<|cd aa (fun bD=> ?_) fun bD=> ?_;refine aH 6 aa<|p (a6 ke aa aa ab<|aB.ok ((aX ap).2)<|bS ab)<|p (ld1 aa<|aB.gV (i:=i) (aX ap).2<|oh ab)<|au 7 aa<|e<|dd gM aa aa (v:= .int .i64 ((((idxs stem xs).getD i 0):Nat):Int)) aa bz (by show 1 < 5; omega) fun ae ah bf=> ?_;have a2:ae.heap[O]? =some (.cells [str wd,.int .i64 ((((idxs stem xs).getD i 0):Nat):Int),.int .i64 f,.int .i64 s,.int .i64 pp].toArray 49 (0,0)):=bf;have aD:Md (fun k=>k=dm) wB ae:=bH.trans' ah fun q ac h=>by omega
 have bL:Md (fun k=>k=dm) w ae:=a5.trans' ah fun q ac h=>by omega
 have a9:¬(dm=O):=ab;have br:=aS.md ah a9;have bO:=da ap ah fun q ac h=>by have :=(dH ap ac).1; omega
 have bN:=(ff.1 (Cn.1<|dR (d:=0) (show i < (idxs stem xs).length by omega)).choose_spec.1).1;refine aQ 3 aa<|dZ fun al=>aT [0,1,2] aa al<|cw 3 aa al ((a8<|I.at aD).trans aa)<|fz 4 aa (fun w' E=>cQ oN aa (aa) fun j a4=>(Wk.B E<|oP a2).bu j) al<|he 5 aa aj<|aM (UM B tb U F xs wd (((idxs stem xs).getD i 0):Nat) f s pp ae.drew (I.Dy aD.drew) aR bB hs bR) aa fun v32 A aW=> ?_;rw [vW bN] at aW;obtain ⟨rfl,bk⟩:=aW;have C:(fun w'=>Wk ae w') A:=al.trans bk;refine ⟨C,?_⟩;refine bP 6 aa (mv) C<|aT [7,8,9,10] aa C<|hn aj<|dz 2 aa ?_;have an:Md (fun k=>k=dm) wB A:=aD.trans' C fun _ _ h=>h.elim;have aF:Md (fun k=>k=dm) w A:=bL.trans' C fun _ _ h=>h.elim;have ax:=br.md C id;have Z:=Wk.bl C a2;have aI:=aU bO C;refine aH 3 aa<|gb (t:=36) aa (fun aq=> ?_) fun aq=> ?_;obtain ⟨v,bU⟩:∃ v,gW F xs ((idxs stem xs).getD i 0) f s pp=some v:=nP.1<|by simpa using aq
 refine au 2 aa<|bI aa (ld1 aa<|(a8 Z).trans aa)<|aQ 4 aa<|cd aa (fun heq=> ?_) fun heq=> ?_;have bV:gW F xs ((idxs stem xs).getD i 0) f s pp=some wd:=by rw [bU] at heq ⊢; exact congrArg some heq
 have bZ:(eO ⟨wd,((idxs stem xs).getD i 0),f,s,pp⟩)= .agg [str wd,.int .i64 ((((idxs stem xs).getD i 0):Nat):Int),.int .i64 f,.int .i64 s,.int .i64 pp].toArray:=rfl;obtain ⟨fd,aA,bC,a3⟩:=ax;obtain ⟨V,a1⟩:∃ V:Int,(fd<|eO ⟨wd,((idxs stem xs).getD i 0),f,s,pp⟩).getD (.int .i64 0)= .int .i64 V:=by
  cases ac:fd (eO ⟨wd,((idxs stem xs).getD i 0),f,s,pp⟩) with
  | none=>exact ⟨0,rfl⟩
  | some u=>obtain ⟨n,rfl⟩:=a3 _ _ ac; exact ⟨n,rfl⟩
 have G:(fun w'=>Md (fun k=>k=dm) A w'∧xD w'.heap dm (eO ⟨wd,((idxs stem xs).getD i 0),f,s,pp⟩) (.int .i64 0) (.int .i64 V)) A.drew:=⟨(Md.refl _ _).drew,fd,aA.yM,a1⟩
 refine gO (fun w'=>Md (fun k=>k=dm) A w'∧xD w'.heap dm (eO ⟨wd,((idxs stem xs).getD i 0),f,s,pp⟩) (.int .i64 0) (.int .i64 V)) 9 aa wide G<|gH [0,1,2] aa G<|lq 3 aa aj (fun w' E=>ld1 aa<|(a8<|I.at<|an.trans E.1).trans aa) G<|lq 4 aa aj (fun w' E=>cQ oN aa (aa) fun j a4=>(Md.B E.1 (oP Z) fun h=>a9 h.symm).bu j) G<|lq 5 aa aj (fun w' E=>UB DC oD E.2 aa aa ⟨_,aa⟩) G<|qK 6 aa (ER _ rfl aa aa) G<|gN 7 aa aj<|UX DC oD (kx:=eO ⟨wd,((idxs stem xs).getD i 0),f,s,pp⟩) Iy aA aa aa ⟨_,aa⟩ fun Dq bW aV aY=> ?_;have aZ:(fun w'=>Md (fun k=>k=dm) A w'∧xD w'.heap dm (eO ⟨wd,((idxs stem xs).getD i 0),f,s,pp⟩) (.int .i64 0) (.int .i64 V)) bW:=⟨G.1.trans aV,_,aY.Vc.yM,by rw [ow]; exact a1⟩
 refine ⟨aZ,?_⟩;refine gH [8] aa aZ<|dK 9 aa aj aj<|UZ aY aa aa aa fun aK bv bi=> ?_;have ao:=(Md.refl (fun k=>k=dm) A).drew.trans<|aV.trans bv;have bG:Md (fun k=>k=dm) wB aK:=an.trans ao;have bM:Md (fun k=>k=dm) w aK:=aF.trans ao;have bt:kz aK.heap dm (pU F xs wd stem f s pp S<|i+1):=(kz.put bC a3 bi).congr<|Uy bV;have a0:TF A [1] (fun k=>k=dm):=TF.eq (zr aA.yM.choose_spec.1) aw;have bx:=ao.iK a0 Z aw;have bQ:=cj aI ao a0 aw;exact eQ aj<|bc 6 aa<|tn<|⟨_,ab,i+1,_,ab,bG,bM,bt,bx,bQ,aa,aa⟩
 have aG:gW F xs ((idxs stem xs).getD i 0) f s pp≠some wd:=fun h=>heq<|by rw [h]; rfl
 exact aJ 7 aa<|tn<|⟨_,ab,i+1,_,ab,an,aF,(ax.congr<|IM aG),Z,aI,aa,aa⟩
 have aG:gW F xs ((idxs stem xs).getD i 0) f s pp≠some wd:=fun h=>by rw [h] at aq; cases aq
 exact aC 15 aa<|tn<|⟨_,ab,i+1,_,ab,an,aF,(ax.congr<|IM aG),Z,aI,aa,aa⟩
 refine aJ 2 aa<|bK<|bc 1 aa<|f0 aa ?_;obtain rfl :i=(idxs stem xs).length:=ab;exact ⟨aa,aS.congr (fun d=>(Ux d).symm),a5⟩
end Go.Hb
end
