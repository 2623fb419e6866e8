/-
  Walks and plain laws that the law rests on, laid together. No conditions but those that each theorem names.
-/
import Derived.Test.YtchkamdekbbgeaaGreatDoorMnAnalyseAccepts1
set_option linter.unusedVariables false
open Array renaming foldl_toList→LM,getElem?_eq_getElem→xh,getElem?_eq_some_iff→dD,getElem?_setIfInBounds_ne→uO,getElem?_setIfInBounds_self_of_lt→uP,length_toList→xi,range→q5,toArray_toList→zM,toList_filter→zN,toList_inj→zO,toList_map→nK,toList_modify→zP,toList_push→DX,toList_setIfInBounds→LP
open BitVec renaming ofInt→gI,toNat_ofInt→se,toNat_or→LQ
open Bool renaming and_eq_true→il,eq_iff_iff→sg,noConfusion→dM,or_false→LR,true_and→xm
open Classical renaming not_not→jG
open Except.ok renaming injEq→tk
open Go.Calls renaming mono→mm
open Go.CallsD renaming mono→LW
open Go.Code renaming wp_mono→LX
open Go.Deferred renaming ofValue→sh
open Go renaming Edge→fO,Exit→dG,Func→lz,FuncId→iz,IntKind→ew,Oper→cg,Operand→ek,Program→bH,TypeId→bB,Value→ag,World→ak
open Go.Extern.BytealgCount renaming count→ZQ
open Go.Extern.BytealgIndexByte renaming indexByte→ZR
open Go.Extern renaming find→L4,findNext→L5
open Go.Fence renaming wide→q6
open Go.Instr renaming checkKey→pw,entryStore→L8,field→L9,fill→nL,findKey→tq,findNow→tt,keyThatStays→D2,mapEntry→D3,mapUpdate→D4,sameBits→Mc,sameNow→D5,sliceAt→tu,sliceBounds→qc,sureAddr→si,typeAssert→Me
open Go.IntKind renaming u16→qd,u64→eU,u8→sj
open Go.Lib renaming indexByte→Mf,run_clear_slice→Mg
open Go.Oper renaming semAt_eq→Mh,upon→mo,uponIn→zT,wp→kr
open Go.Program renaming underlying→Mi
open Go.Region renaming Mode→tw,ready→k5
open Go.Result renaming andThen_ok→oE
open Go.Rows renaming mono→Eg
open Go.Sem renaming run→tx,run_bind→oF,run_pure→q8
open Go.Sort renaming SortedIn→uU
open Go.Value renaming agg→bN,oneCell'→fX,ownBlock→jS,slice→bQ
open Go.Value.slice renaming injEq→mq
open Go.World renaming alloc_heap_new→Mr,frozen?→Mt,putObj_heap_other→zV,putObj_heap_same→Mu,setCell→zW
open Int renaming toNat_natCast→kg
open List.Pairwise renaming filter→ZT,imp→ZU,imp_of_mem→ZV
open List renaming all_eq_true→lV,append_assoc→eX,append_nil→ez,cons_append→Mz,drop_set→ME,drop_succ_cons→zY,drop_zero→z1,eq_nil_of_length_eq_zero→fY,ext_getElem?→qe,filterMap_cons→z6,filter_append→q9,filter_cons→pD,filter_cons_of_neg→MG,filter_cons_of_pos→MH,filter_eq_self→z7,filter_sublist→MJ,flatMap_cons→kt,flatMap_map→MM,flatMap_nil→Er,foldl_append→z8,foldl_cons→sy,getD_cons_succ→MN,getD_cons_zero→lW,getD_eq_getElem?_getD→cH,getElem?_append_left→mX,getElem?_append_right→nN,getElem?_cons_zero→Aa,getElem?_drop→rh,getElem?_eq_getElem→bY,getElem?_eq_none→tB,getElem?_eq_some_iff→ff,getElem?_inj→Es,getElem?_map→fJ,getElem?_modify→MQ,getElem?_of_mem→Ab,getElem?_range→Et,getElem?_set→mr,getElem?_toArray→MS,getElem_mem→Eu,idxOf_cons→uZ,length→jr,length_append→bG,length_cons→cC,length_drop→fP,length_filter_le→qg,length_map→fC,length_nil→gr,length_pos_iff→mu,length_replicate→pE,length_singleton→fg,length_take→dJ,mapM_toArray→xx,map_append→gS,map_cons→pF,map_map→MU,mem_append→jT,mem_append_left→Ag,mem_append_right→u7,mem_cons→fi,mem_cons_of_mem→nO,mem_cons_self→mY,mem_filter→qh,mem_flatMap→pG,mem_iff_getElem→Ev,mem_map→je,mem_map_of_mem→tC,mem_of_getElem?→gB,mem_or_eq_of_mem_set→MX,mem_range→qi,mem_singleton→iS,nil_append→qj,nodup_append→xy,nodup_cons→Ew,nodup_iff_pairwise_ne→MY,not_mem_nil→xz,pairwise_cons→qk,pairwise_lt_range→M0,pairwise_map→Ex,range→gT,range_succ→xA,replicate→ku,set_eq_take_append_cons_drop→M1,size_toArray→ql,take_append→Ai,take_of_length_le→eY,take_succ_cons→qm,take_take→M5,take_zero→pH,zipIdx_cons→Ak
open Nat renaming add_sub_cancel→tE,add_sub_cancel_left→Ez,ble→oH,blt→gu,le_of_ble_eq_true→sA,le_refl→cE,le_trans→e7,lt_succ_self→tF,min_eq_left→qn,mul_le_mul_right→qo,mul_one→vg,or_lt_two_pow→EB,pow_lt_pow_right→Am,succ_mul→ri,testBit_or→Na,testBit_two_pow→Nb,zero_add→im,zero_le→gY
open Option renaming bind_some→rj,getD_some→An,map_eq_some_iff→mZ,map_some→lB
open Option.some renaming inj→vj,injEq→gJ
open Prod renaming fst→gU
open Prod.mk renaming injEq→vk
open UInt8 renaming ofNat→ky,toNat→ED,toNat_inj→lC,toNat_lt→js,toNat_ofNat'→EE
open Go.Proofs.Tryz
open Go.RowKit

namespace Go.Hb
def iY:List Nat→List Nat
 | []=> []
 | [x]=> [x]
 | x::y::l=>if x=y then iY (y::l) else x::iY (y::l)
theorem QA (x y:Nat):∀ l:List Nat,iY (l++ [x,y])=if x=y then iY (l++ [x]) else iY (l++ [x])++ [y]:=by
 intro l
 induction l with
 | nil=>by_cases h:x=y <;> simp [iY,h]
 | cons a l A=>
   cases l with
   | nil=>by_cases h:a=x <;> by_cases h2:x=y <;> simp_all [iY]
   | cons b l=>
     simp only [Mz] at A ⊢;rw [iY,A,iY];by_cases h:a=b <;> by_cases h2:x=y <;> simp [h,h2]
theorem Gh (x:Nat):∀ l:List Nat,x∈iY l↔x∈l:=by
 intro l
 induction l with
 | nil=>simp [iY]
 | cons a l A=>
   cases l with
   | nil=>simp [iY]
   | cons b l=>
     rw [iY];by_cases h:a=b
     · subst h; rw [if_pos rfl,A]; simp
     · rw [if_neg h,fi,A,fi (a:=x) (b:=a)]
theorem Qy:∀ l:List Nat,l.Pairwise (·≤·)→(iY l).Pairwise (· < ·):=by
 intro l
 induction l with
 | nil=>intro _; exact List.Pairwise.nil
 | cons a l C=>
   intro h;cases l with
   | nil=>simp [iY]
   | cons b l=>
     rw [qk] at h;rw [iY];by_cases h1:a=b
     · rw [if_pos h1]; exact C h.2
     · rw [if_neg h1,qk];refine ⟨fun y A=> ?_,C h.2⟩;have A:=(Gh y _).1 A;have h2:=h.1 b<|by simp
       rcases fi.1 A with rfl | A
       · omega
       · have :=(qk.1 h.2).1 y A; omega
theorem WS:∀ l m:List Nat,l.Pairwise (· < ·)→m.Pairwise (· < ·)→(∀ x,x∈l↔x∈m)→l=m:=by
 intro l
 induction l with
 | nil=>
   intro m _ _ h;cases m with
   | nil=>rfl
   | cons y m=>have :=(h y).2 (by simp); cases this
 | cons a l E=>
   intro m C hm h;cases m with
   | nil=>have :=(h a).1 (by simp); cases this
   | cons y m=>
     rw [qk] at C hm;have e:a=y:=by
      have h1:=(h a).1<|by simp
      have h2:=(h y).2<|by simp
      rcases fi.1 h1 with h1 | h1
      · exact h1
      · rcases fi.1 h2 with h2 | h2
        · exact h2.symm
        · have :=C.1 y h2; have :=hm.1 a h1; omega
     subst e;congr 1;refine E m C.2 hm.2 fun x=> ?_;constructor
     · intro A;have :=C.1 x A;rcases fi.1 ((h x).1<|nO _ A) with h1 | h1
       · omega
       · exact h1
     · intro A;have :=hm.1 x A;rcases fi.1 ((h x).2<|nO _ A) with h1 | h1
       · omega
       · exact h1
def nr (x:Nat):List Nat→List Nat
 | []=> [x]
 | y::l=>if x < y then x::y::l else if x=y then y::l else y::nr x l
def kL (l:List Nat):List Nat:=l.foldr nr []
theorem Im (x y:Nat):∀ l:List Nat,y∈nr x l↔y=x∨y∈l:=by
 intro l
 induction l with
 | nil=>simp [nr]
 | cons a l A=>
   rw [nr];split
   · simp
   · split
     · rename_i h; subst h; simp
     · rw [fi,A,fi];constructor <;> (rintro (h | h | h) <;> simp [h])
theorem TO (x:Nat):∀ l:List Nat,l.Pairwise (· < ·)→(nr x l).Pairwise (· < ·):=by
 intro l
 induction l with
 | nil=>intro _; simp [nr]
 | cons a l E=>
   intro h;rw [nr];rw [qk] at h;split
   · rename_i C;rw [qk,qk];exact ⟨fun y A=>by rcases fi.1 A with rfl | A; exact C; have :=h.1 y A; omega,h⟩
   · split
     · rw [qk]; exact h
     · rw [qk];exact ⟨fun y A=>by rcases (Im x y l).1 A with rfl | A; omega; exact h.1 y A,E h.2⟩
theorem CB (x:Nat):∀ l:List Nat,x∈kL l↔x∈l:=by
 intro l
 induction l with
 | nil=>simp [kL]
 | cons a l A=>show x∈nr a (kL l)↔_; rw [Im,A,fi]
theorem CC:∀ l:List Nat,(kL l).Pairwise (· < ·):=by
 intro l
 induction l with
 | nil=>exact List.Pairwise.nil
 | cons a l A=>exact TO a _ A
theorem CD {l m:List Nat} (hm:m.Pairwise (· < ·)) (h:∀ x,x∈m↔x∈l):m=kL l:=WS _ _ hm (CC l) fun x=>by rw [h,CB]
theorem VE {l:List Nat} (h:l.Pairwise (· < ·)):kL l=l:=(CD h fun _=>Iff.rfl).symm
theorem TN (x:Nat):∀ l:List Nat,(nr x l).length≤l.length+1:=by
 intro l
 induction l with
 | nil=>simp [nr]
 | cons a l A=>rw [nr]; split <;> (try split) <;> simp only [cC] <;> omega
theorem VD:∀ l:List Nat,(kL l).length≤l.length:=by
 intro l
 induction l with
 | nil=>simp [kL]
 | cons a l A=>have :=TN a (kL l); show (nr a<|kL l).length≤_; simp only [cC]; omega
theorem uF (d:Array Nat):d.toList.length=d.size:=by simp
theorem xa (d:Array Nat) (i:Nat):d.toList.getD i 0=d[i]! :=by
 rw [cH,Array.getElem?_toList];by_cases h:i < d.size
 · rw [xh h,getElem!_pos d i h]; rfl
 · rw [Array.getElem?_eq_none ab,getElem!_neg d i h]; rfl
theorem zw {d:Array Nat} {i:Nat} (h:i < d.size):d.toList.take (i+1)=d.toList.take i++ [d[i]!]:=by
 rw [fN d.toList i 0 (by simpa using h),xa]
theorem x3 {d:Array Nat} {q:Nat} (h1:1≤q) (h:q < d.size):iY (d.toList.take<|q+1)=if d[q - 1]! =d[q]! then iY (d.toList.take q) else iY (d.toList.take q)++ [d[q]!]:=by
 obtain ⟨q,rfl⟩:∃ k,q=k+1:=⟨q - 1,ab⟩
 rw [zw h,zw ab,eX,tE];exact QA _ _ _
theorem Di {d:Array Nat} (h:uU bZ 0 d.size d):d.toList.Pairwise (·≤·):=by
 rw [List.pairwise_iff_getElem];intro i j hi A C;have :=h i j (gY _) C<|by simpa using A
 rw [← xa,← xa,cH,cH,bY hi,bY A] at this;simp only [bZ,decide_eq_false_iff_not,An] at this;omega
theorem XJ {l:List Nat} {d:Array Nat} (hp:Go.Sort.PermIn 0 l.length l.toArray d) (hs:uU bZ 0 l.length d):iY d.toList=kL l:=by
 have A:d.size=l.length:=by rw [hp.1]; simp
 have C:d.toList.Perm l:=by
  have :=hp.2.2;rw [show (d.extract 0 l.length).toList=d.toList from by rw [Array.toList_extract]; simp [eY (show d.toList.length≤l.length by simp [A])]] at this;simpa using this
 exact CD (Qy _<|Di<|by rw [A]; exact hs) fun x=>by rw [Gh]; exact C.mem_iff
theorem x6 {d d2:Array Nat} {k j:Nat} (h:d.toList.drop k=d2.toList.drop k) (hk:k≤j):d[j]! =d2[j]! :=by
 have :=congrArg (fun l=>l.getD (j - k) 0) h;simp only [cH,rh,show k+(j - k)=j from by omega] at this;rw [← xa,← xa]; simpa [cH] using this
theorem set_drop {d:Array Nat} {k m v:Nat} (h:k < m):(d.setIfInBounds k v).toList.drop m=d.toList.drop m:=by
 rw [LP,ME,if_pos h]
theorem Dd {d:Array Nat} {k v:Nat} (h:k < d.size):(d.setIfInBounds k v).toList.take (k+1)=d.toList.take k++ [v]:=by
 rw [LP,M1,if_pos (by simpa using h),Ai,dJ,xi,qn ab,Ez,eY (by rw [dJ]; omega)];rfl
theorem B9 {h:Array Obj} {a:Option Addr} {d:Array Nat} {i j:Nat} {f:Nat→ag} (A:aB h a ((LE f d).drop i)) (hi:i+j < d.size):Hb.aV h (bk a) (fo a+j*1)=some (f d[i+j]!):=by
 refine A.gV ?_;rw [rh]; exact IH hi
theorem Ca {d:Array Nat} {i:Nat} {f:Nat→ag} (h:i < d.size):(LE f d).drop i≠[]:=by
 intro e; have :=congrArg jr e; rw [fP,vT,gr] at this; omega
def jD (b:UInt8):Bool:=decide (33≤b.toNat∧b.toNat≤126∧b.toNat≠47∧b.toNat≠44∧b.toNat≠35)
noncomputable def eZ (kind:Nat) (s:List UInt8):Nat:=
 if kind=1 then (if s.length=1∧jD (s.getD 0 0)=true then (s.getD 0 0).toNat else 0)
 else if kind=2 then (if s.length=2∧jD (s.getD 0 0)=true∧jD (s.getD 1 0)=true then 256 *(s.getD 0 0).toNat+(s.getD 1 0).toNat else 0)
 else (ee s 65535).1
def fW (c:UInt8):List UInt8→List UInt8→List (List UInt8)
 | acc,[]=> [acc]
 | acc,b::l=>if b=c then acc::fW c [] l else fW c (acc++ [b]) l
theorem XN (c:UInt8):∀ (l acc:List UInt8),(fW c acc l).length≤l.length+1:=by
 intro l
 induction l with
 | nil=>intro acc; simp [fW]
 | cons b l A=>
   intro acc; rw [fW]; split
   · have :=A []; simp only [cC]; omega
   · have :=A (acc++ [b]); simp only [cC]; omega
theorem XO (c:UInt8):∀ (l acc x:List UInt8),x∈fW c acc l→x.length≤acc.length+l.length:=by
 intro l
 induction l with
 | nil=>intro acc x h; simp only [fW,iS] at h; subst h; simp
 | cons b l A=>
   intro acc x h;rw [fW] at h;split at h
   · rcases fi.1 h with rfl | h
     · simp
     · have :=A [] x h; simp only [gr,cC] at*; omega
   · have :=A _ x h; rw [bG,fg] at this; simp only [cC]; omega
def qA (k:Nat):Nat→List UInt8→List (List UInt8)
 | 0,_=> []
 | f+1,s=>if s= [] then [] else s.take k::qA k f (s.drop k)
def chunks (k:Nat) (s:List UInt8):List (List UInt8):=qA k s.length s
theorem OW {k:Nat} (hk:0 < k):∀ (f g:Nat) (s:List UInt8),s.length≤f→s.length≤g→qA k f s=qA k g s:=by
 intro f
 induction f with
 | zero=>intro g s h _; obtain rfl :=fY (by omega :s.length=0); cases g <;> simp [qA]
 | succ f A=>
   intro g s h1 h2;cases g with
   | zero=>obtain rfl :=fY (by omega :s.length=0); simp [qA]
   | succ g=>
     rw [qA,qA];by_cases hs:s= []
     · simp [hs]
     · have C:=mu.2 hs;rw [if_neg hs,if_neg hs,A g (s.drop k) (by rw [fP]; omega) (by rw [fP]; omega)]
theorem xT (k:Nat):chunks k []= []:=rfl
theorem xS {k:Nat} {s:List UInt8} (hk:0 < k) (hs:s≠[]):chunks k s=s.take k::chunks k (s.drop k):=by
 have A:=mu.2 hs;unfold chunks;obtain ⟨m,hm⟩:∃ m,s.length=m+1:=⟨s.length - 1,ab⟩
 rw [hm,qA,if_neg hs,OW hk m (s.drop k).length (s.drop k) (by rw [fP]; omega) (cE _)]
theorem OZ {k:Nat} (hk:0 < k):∀ (n:Nat) (s:List UInt8),s.length≤n→(chunks k s).length≤s.length:=by
 intro n
 induction n with
 | zero=>intro s h; obtain rfl :=fY (by omega :s.length=0); simp [xT]
 | succ n A=>
   intro s h;by_cases hs:s= []
   · subst hs; simp [xT]
   · have C:=mu.2 hs;rw [xS hk hs,cC];have :=A (s.drop k)<|by rw [fP]; omega
     rw [fP] at this; omega
theorem O0 {k:Nat} (hk:0 < k):∀ (n:Nat) (s x:List UInt8),s.length≤n→x∈chunks k s→x.length≤s.length:=by
 intro n
 induction n with
 | zero=>intro s x h A; obtain rfl :=fY (by omega :s.length=0); cases A
 | succ n C=>
   intro s x h A;by_cases hs:s= []
   · subst hs; cases A
   · have E:=mu.2 hs;rw [xS hk hs] at A;rcases fi.1 A with rfl | A
     · rw [dJ]; omega
     · have :=C (s.drop k) x (by rw [fP]; omega) A;rw [fP] at this; omega
def ea (kind:Nat) (s:List UInt8):List (List UInt8):=if kind=3 then fW 44 [] s else chunks kind s
theorem JG {kind:Nat} {s:List UInt8} (hk:0 < kind):(ea kind s).length≤s.length+1:=by
 unfold ea; split
 · exact XN _ _ _
 · have :=OZ hk s.length s (cE _); omega
theorem JH {kind:Nat} {s x:List UInt8} (hk:0 < kind) (h:x∈ea kind s):x.length≤s.length:=by
 unfold ea at h; split at h
 · have :=XO _ _ _ _ h; simpa using this
 · exact O0 hk _ _ _ (cE _) h
noncomputable def ed (kind:Nat) (s:List UInt8):List Nat×Nat:=
 if s= [] then ([],31) else if ∃ x∈ea kind s,eZ kind x=0 then ([],31) else if 64 < (ea kind s).length then ([],32) else (kL ((ea kind s).map<|eZ kind),0)
noncomputable def ir (kind:Nat) (s:List UInt8):Nat×Nat:=if eZ kind s=0 then (0,31) else (eZ kind s,0)
theorem Hi (kind:Nat) (s:List UInt8):eZ kind s < 65536:=by
 unfold eZ;have A:=js<|s.getD 0 0;have h1:=js<|s.getD 1 0;split
 · split <;> omega
 · split
   · split <;> omega
   · unfold ee; split
     · exact Nat.zero_lt_succ _
     · rename_i h; simp only; omega
theorem uL {n:Int} (h:0≤n∧n≤65535):qd.wrap n=n:=IntWalk.u16_in n h
theorem Xs {x:Nat} (h:x < 256):qd.wrap ((x:Int)*2 ^ min (8:Int).toNat qd.bits)=((256 *x:Nat):Int):=by
 have h2:((x:Int)*2 ^ min (8:Int).toNat qd.bits)=((256 *x:Nat):Int):=by
  show (x:Int)*256=_;omega
 rw [h2]; exact uL ab
theorem VL {x y:Nat} (h:x < 256) (G:y < 256):qd.wrap (gI qd.bits ((256 *x:Nat):Int) ||| gI qd.bits ((y:Nat):Int)).toNat=((256 *x+y:Nat):Int):=by
 have h1:(gI qd.bits ((256 *x:Nat):Int) ||| gI qd.bits ((y:Nat):Int)).toNat=256 *x+y:=by
  have E:(qd.bits:Nat)=16:=rfl;rw [LQ,se,se,E];have A:(((256 *x:Nat):Int) % ((2 ^ 16:Nat):Int)).toNat=2 ^ 8 *x:=ab;have C:(((y:Nat):Int) % ((2 ^ 16:Nat):Int)).toNat=y:=ab;rw [A,C,← Nat.two_pow_add_eq_or_of_lt (show y < 2 ^ 8 by omega)]
 rw [h1]; exact uL ab
theorem Jm (s:List UInt8):(ee s 65535).1≤65535:=by
 unfold ee; split
 · exact gY _
 · simp only; omega
theorem OY (s:List UInt8) (i k:Nat):(s.take (min ((i+k:Nat):Int) (s.length:Int)).toNat).drop (i:Int).toNat=(s.drop i).take k:=by
 rw [kg,show (min ((i+k:Nat):Int) (s.length:Int)).toNat=min (i+k) s.length from by omega,List.drop_take];by_cases h:i+k≤s.length
 · rw [qn h,Ez]
 · rw [Nat.min_eq_right ab,eY (by rw [fP]; omega),eY (by rw [fP]; omega)]
theorem KG (c:UInt8):∀ (l acc:List UInt8),l.idxOf c < l.length→fW c acc l=(acc++l.take (l.idxOf c))::fW c [] (l.drop<|l.idxOf c+1):=by
 intro l
 induction l with
 | nil=>intro acc h; simp at h
 | cons b l C=>
   intro acc h;rw [fW];by_cases A:b=c
   · subst A; rw [if_pos rfl]; simp
   · rw [if_neg A];have hi:(b::l).idxOf c=l.idxOf c+1:=by rw [uZ,show (b==c)=false from by simpa using A]; rfl
     rw [hi] at h ⊢;simp only [cC] at h;rw [C _ ab];simp [eX]
theorem XP (c:UInt8):∀ (l acc:List UInt8),¬c∈l→fW c acc l= [acc++l]:=by
 intro l
 induction l with
 | nil=>intro acc _; simp [fW]
 | cons b l A=>
   intro acc h;rw [fi,not_or] at h;rw [fW,if_neg (fun e=>h.1 e.symm),A _ h.2]; simp
theorem Dl (c:UInt8):∀ (l acc:List UInt8),(fW c acc l).length=l.count c+1:=by
 intro l
 induction l with
 | nil=>intro acc; simp [fW]
 | cons b l C=>
   intro acc;rw [fW];by_cases A:b=c
   · subst A; rw [if_pos rfl,cC,C]; simp
   · rw [if_neg A,C,List.count_cons_of_ne A]
theorem Qj {c:UInt8} {l:List UInt8} (h:l.idxOf c < l.length):(l.drop<|l.idxOf c+1).count c+1=l.count c:=by
 have h1:=Dl c l [];rw [KG c l [] h,cC,Dl] at h1;omega
def bJ (n:Nat):ag:= .int .i64 n
theorem yG {α:Type} {f:α→ag} {h:Array Obj} {a:Option Addr} {l:List α} {i:Nat} (d:α) (A:aB h a (l.map f)) (hi:i < l.length):Hb.aV h (bk a) (fo a+i*1)=some (f<|l.getD i d):=by
 refine A.gV ?_;rw [fJ,bY hi,cH,bY hi]; rfl
def rl (l out:List Nat) (last:Int):Prop :=out.Pairwise (· < ·)∧∀ x,x∈out↔x∈l∧(x:Int)≤last
def lH (l:List Nat) (last:Int) (i:Nat) (nx:Int):Prop :=(nx= -1∧∀ j,j < i→((l.getD j 0:Nat):Int)≤last)∨(∃ m∈l,nx=(m:Nat)∧last < nx∧∀ j,j < i→last < ((l.getD j 0:Nat):Int)→nx≤((l.getD j 0:Nat):Int))
theorem rl.nil (l:List Nat):rl l [] (-1):=⟨List.Pairwise.nil,fun x=>by simp; omega⟩
theorem lH.nil (l:List Nat) (last:Int):lH l last 0 (-1):= .inl ⟨rfl,fun j A=>by omega⟩
theorem yR {i:Nat} {q:Nat→Prop} (h:∀ j,j < i→q j) (h1:q i):∀ j,j < i+1→q j:=fun j A=>by
 rcases Nat.lt_or_ge j i with h2 | h2
 · exact h j h2
 · rw [show j=i by omega]; exact h1
theorem lH.skip {l:List Nat} {last nx:Int} {i:Nat} (h:lH l last i nx) (h1:((l.getD i 0:Nat):Int)≤last∨(¬nx < 0∧nx≤((l.getD i 0:Nat):Int))):lH l last (i+1) nx:=by
 rcases h with ⟨h2,h3⟩ | ⟨m,hm,h2,h3,h4⟩
 · exact .inl ⟨h2,yR h3 ab⟩
 · exact .inr ⟨m,hm,h2,h3,yR h4 ab⟩
theorem lH.take {l:List Nat} {last nx:Int} {i:Nat} (h:lH l last i nx) (hi:i < l.length) (h1:last < ((l.getD i 0:Nat):Int)) (h2:nx < 0∨((l.getD i 0:Nat):Int) < nx):lH l last (i+1) ((l.getD i 0:Nat):Int):=by
 refine .inr ⟨l.getD i 0,?_,aa,h1,?_⟩
 · rw [cH,bY hi]; exact Eu hi
 · rcases h with ⟨_,h4⟩ | ⟨m,_,h3,_,h5⟩
   · exact yR (fun j A C=>by have :=h4 j A; omega) ab
   · exact yR (fun j A C=>by have :=h5 j A C; omega) ab
theorem lH.done {l out:List Nat} {last nx:Int} (h:lH l last l.length nx) (hu:rl l out last) (hn:nx < 0):out=kL l:=by
 refine CD hu.1 fun x=> ?_;rw [hu.2];refine ⟨fun h1=>h1.1,fun h1=>⟨h1,?_⟩⟩;rcases h with ⟨_,h3⟩ | ⟨m,_,h3,_,_⟩
 · obtain ⟨j,A,rfl⟩:=Ev.1 h1;have :=h3 j A;rwa [cH,bY A] at this
 · omega
theorem lH.more {l out:List Nat} {last nx:Int} (h:lH l last l.length nx) (hu:rl l out last) (hn:¬nx < 0):∃ m,m∈l∧nx=((m:Nat):Int)∧last < nx∧rl l (out++ [m]) nx:=by
 rcases h with ⟨h2,_⟩ | ⟨m,hm,h2,h3,h4⟩
 · omega
 · refine ⟨m,hm,h2,h3,?_,fun x=> ?_⟩
   · rw [List.pairwise_append];exact ⟨hu.1,List.pairwise_singleton _ _,fun a I b A=>by rw [iS] at A; subst A; have :=((hu.2 a).1 I).2; omega⟩
   · rw [jT,hu.2,iS];constructor
     · rintro (⟨h5,E⟩ | rfl)
       · exact ⟨h5,ab⟩
       · exact ⟨hm,ab⟩
     · rintro ⟨h5,E⟩;by_cases G:(x:Int)≤last
       · exact .inl ⟨h5,G⟩
       · right;obtain ⟨j,C,rfl⟩:=Ev.1 h5;have :=h4 j C;rw [cH,bY C] at this;simp only [An] at this;omega
end Go.Hb
section
namespace Go.Hb
def jh (b:UInt8):Bool:=decide (33≤b.toNat∧b.toNat≠127)
def gL (w:List UInt8):Bool:=w.all jh
def qV (w:List UInt8):Bool:=decide (1≤w.length∧w.length≤64∧gL w=true)
theorem dR {α:Type} {l:List α} {i:Nat} {d:α} (h:i < l.length):l.getD i d∈l:=by
 rw [cH,bY h]; exact Eu h
theorem mM {α:Type} {l:List α} {x:α} (d:α) (h:x∈l):∃ i,i < l.length∧l.getD i d=x:=by
 obtain ⟨i,hi,rfl⟩:=Ev.1 h;exact ⟨i,hi,by rw [cH,bY hi]; rfl⟩
theorem E0 {α:Type} {f:α→Bool} {l:List α} {i:Nat} (d:α) (h:i < l.length) (h1:f (l.getD i d)=false):l.all f=false :=by
 rw [List.all_eq_false]; exact ⟨_,dR h,by rw [h1]; exact dM⟩
theorem E1 {α:Type} {f:α→Bool} {l:List α} (d:α) (h:∀ i,i < l.length→f (l.getD i d)=true):l.all f=true :=by
 rw [lV]; intro x A; obtain ⟨i,hi,rfl⟩:=mM d A; exact h i hi
theorem tU {w:List UInt8} {i:Nat} (h:i < w.length) (h1:jh (w.getD i 0)=false):gL w=false :=E0 0 h h1
theorem vA {w:List UInt8} (h:∀ i,i < w.length→jh (w.getD i 0)=true):gL w=true :=E1 0 h
theorem Ow (b:UInt8):gL [b]=jh b:=by unfold gL; simp
def sO (b:UInt8):Bool:=decide (b.toNat=92∨b.toNat=47∨b.toNat=35)
abbrev lZ:Type :=List UInt8×List UInt8×Bool×Nat
def JQ (r:lZ):ag:= .tuple #[str r.1,str r.2.1,.bool r.2.2.1,.int .i64 r.2.2.2]
def jR:List UInt8→List UInt8→lZ
 | acc,[]=>(acc,[],false,0)
 | acc,[b]=>if b.toNat=47 then (acc,[],true,0) else if b.toNat=92 then ([],[],false,20) else (acc++ [b],[],false,0)
 | acc,b::c::l=>if b.toNat=47 then (acc,c::l,true,0) else if b.toNat=92 then (if sO c=true then jR (acc++ [c]) l else ([],[],false,20)) else jR (acc++ [b]) (c::l)
theorem zI (acc:List UInt8):jR acc []=(acc,[],false,0):=by simp [jR]
theorem DR {acc l:List UInt8} {b:UInt8} (h:b.toNat=47):jR acc (b::l)=(acc,l,true,0):=by
 cases l <;> simp [jR,h]
theorem DO {acc:List UInt8} {b:UInt8} (h:b.toNat=92):jR acc [b]=([],[],false,20):=by simp [jR,h]
theorem DP {acc l:List UInt8} {b c:UInt8} (h:b.toNat=92) (A:sO c=false):jR acc (b::c::l)=([],[],false,20):=by simp [jR,h,A]
theorem xf {acc l:List UInt8} {b c:UInt8} (h:b.toNat=92) (A:sO c=true):jR acc (b::c::l)=jR (acc++ [c]) l:=by simp [jR,h,A]
theorem DQ {acc l:List UInt8} {b:UInt8} (h:¬b.toNat=47) (h1:¬b.toNat=92):jR acc (b::l)=jR (acc++ [b]) l:=by
 cases l <;> simp [jR,h,h1]
theorem Zy (n:Nat):∀ (l acc:List UInt8),l.length≤n→(jR acc l).1.length≤acc.length+l.length∧(jR acc l).2.1.length≤l.length:=by
 induction n with
 | zero=>intro l acc h; obtain rfl :=fY (by omega :l.length=0); rw [zI]; exact ⟨by simp,by simp⟩
 | succ n A=>
   intro l acc h;cases l with
   | nil=>rw [zI]; exact ⟨by simp,by simp⟩
   | cons b l=>
     simp only [cC] at h ⊢;by_cases h1:b.toNat=47
     · rw [DR h1]; exact ⟨by simp only; omega,by simp only; omega⟩
     · by_cases h2:b.toNat=92
       · cases l with
         | nil=>rw [DO h2]; exact ⟨by simp,by simp⟩
         | cons c l=>
           simp only [cC] at h ⊢;cases hc:sO c
           · rw [DP h2 hc]; exact ⟨by simp,by simp⟩
           · rw [xf h2 hc];have :=A l (acc++ [c]) ab;rw [bG,fg] at this;omega
       · rw [DQ h1 h2];have :=A l (acc++ [b]) ab;rw [bG,fg] at this;omega
def bD (f:List UInt8):lZ:=jR [] f
theorem td (f:List UInt8):(bD f).1.length≤f.length∧(bD f).2.1.length≤f.length:=by
 have :=Zy f.length f []<|cE _;simpa [bD] using this
def lets (s:List UInt8):List UInt8:=s.foldl (fun a b=>if b∈a then a else a++ [b]) []
def letE (s:List UInt8):List UInt8×Nat:=if s= []∨gL s=false then ([],21) else (lets s,0)
theorem rP {s:List UInt8} {i:Nat} (h:i < s.length):lets (s.take<|i+1)=if s.getD i 0∈lets (s.take i) then lets (s.take i) else lets (s.take i)++ [s.getD i 0]:=by
 unfold lets;rw [fN s i 0 h,z8]; rfl
theorem Cb (s:List UInt8):(lets s).length≤s.length:=by
 have key:∀ (s a:List UInt8),(s.foldl (fun a b=>if b∈a then a else a++ [b]) a).length≤a.length+s.length:=by
  intro s
  induction s with
  | nil=>intro a; simp
  | cons b s A=>
    intro a;rw [sy,cC];split
    · have :=A a; omega
    · have :=A (a++ [b]); rw [bG,fg] at this; omega
 have :=key s [];simpa [lets] using this
def marksOf (a:List UInt8):List ag:=(gT 256).map fun k=> .bool<|decide (ky k∈a)
theorem IX (a:List UInt8):(marksOf a).length=256:=by simp [marksOf]
theorem UQ (a:List UInt8) (b:UInt8):(marksOf a)[b.toNat]? =some (.bool<|decide (b∈a)):=by
 have :=js b;unfold marksOf;rw [fJ,Et ab];simp
theorem US (a:List UInt8) (b:UInt8):(marksOf a).set b.toNat (.bool true)=marksOf (a++ [b]):=by
 apply qe;intro k;rw [mr,IX];unfold marksOf;rw [fJ,fJ];by_cases hk:k < 256
 · rw [Et hk];simp only [lB];have he:(ky k=b)↔b.toNat=k:=by
    constructor
    · rintro rfl; simp; omega
    · rintro rfl; simp
   by_cases h:b.toNat=k
   · have h2:=he.2 h;simp [h,hk,h2]
   · have h2:¬ky k=b:=fun e=>h<|he.1 e;simp [h,h2]
 · have :(gT 256)[k]? =none:=tB<|by simp; omega
   have A:=js b;rw [this];simp; omega
theorem UR:marksOf []=ku 256 (.bool false):=by
 unfold marksOf;apply qe;intro k;rw [fJ,List.getElem?_replicate];by_cases hk:k < 256
 · rw [Et hk]; simp [hk]
 · rw [tB (by simp; omega)]; simp [hk]
theorem Bd.new {T e b:Nat} {w:ak} (h:w.heap[b]? =some (.cells [Value.pointer none,.slice none 0 0].toArray T (0,0))):Bd T e w b (.slice none 0 0) []:=
 ⟨⟨none,h,.inl rfl⟩,World.ownsRow_nil _ _ _ _,by simp⟩
theorem Bd.step {T e b:Nat} {w0 w w':ak} {A:ag} {l:List UInt8} (h:Bd T e w b A l) (C:Wk w0 w) (E:Md (BF b A) w w') (I:w0.heap.size≤b):Wk w0 w':=
 Md.trans' C E fun k hk G=>by have :=h.jM G; omega
theorem Bd.Dt {T e b:Nat} {w0 w w':ak} {A:ag} {l:List UInt8} (h:Bd T e w b A l) (C:Wk w0 w) (E:Md (fun k=>A.ownBlock=some k) w w') (I:w0.heap.size≤b):Wk w0 w':=
 Md.trans' C E fun k hk G=>by have :=h.jM (.inr G); omega
end Go.Hb
end
section
set_option linter.unusedSimpArgs false
namespace Go.Hb
def rv (g:Nat→Bool):Nat→Nat
 | 0=>0
 | n+1=>rv g n ||| (if g n=true then 2 ^ n else 0)
theorem Oc (g:Nat→Bool):∀ n,rv g n < 2 ^ n:=by
 intro n
 induction n with
 | zero=>exact Nat.zero_lt_one
 | succ n A=>
   rw [rv];refine EB (Nat.lt_trans A<|Am aw<|tF n) ?_;split
   · exact Am aw<|tF n
   · exact Nat.two_pow_pos _
theorem vy (g:Nat→Bool) (j:Nat):∀ n,(rv g n).testBit j=(decide (j < n) && g j):=by
 intro n
 induction n with
 | zero=>simp [rv]
 | succ n E=>
   rw [rv,Na,E];by_cases C:j=n
   · subst C;cases h:g j <;> simp [Nat.testBit_two_pow_self]
   · have A:(if g n=true then 2 ^ n else 0).testBit j=false :=by
      split
      · rw [Nb]; simp; omega
      · simp
     rw [A,LR];congr 1;exact decide_eq_decide.2 ab
theorem xP {g:Nat→Bool} {x:Nat} (C:x < 2 ^ 64) (h:∀ j,j < 64→x.testBit j=g j):x=rv g 64:=by
 refine Nat.eq_of_testBit_eq fun j=> ?_;rw [vy];by_cases A:j < 64
 · rw [h j A,decide_eq_true A,xm]
 · rw [decide_eq_false A,Bool.false_and];exact Nat.testBit_lt_two_pow<|Nat.lt_of_lt_of_le C<|Nat.pow_le_pow_right aw ab
def fw (f:UInt8→Bool) (k:Nat):Nat:=rv (fun j=>f<|ky<|64 *k+j) 64
def eV (f:UInt8→Bool):List ag:= [.int .u64 (fw f 0),.int .u64 (fw f 1),.int .u64 (fw f 2),.int .u64 (fw f 3)]
theorem uJ (f:UInt8→Bool) (k:Nat):fw f k < 18446744073709551616:=Oc _ 64
theorem xV (f:UInt8→Bool):(eV f).length=4:=rfl
theorem FL (f:UInt8→Bool):(eV f).all fX=true :=rfl
theorem AW (f:UInt8→Bool) {k:Nat} (h:k < 4):(eV f)[k]? =some (.int .u64<|fw f k):=by
 match k,h with
 | 0,_=>rfl
 | 1,_=>rfl
 | 2,_=>rfl
 | 3,_=>rfl
theorem AX:eV (fun _=>false)= [.int .u64 0,.int .u64 0,.int .u64 0,.int .u64 0]:=by
 have :∀ k,fw (fun _=>false) k=0:=fun k=>(xP (x:=0) aw fun j _=>by simp).symm;unfold eV; simp only [this]; rfl
theorem AJ (b:UInt8) {k j:Nat} (hk:k < 4) (C:j < 64):ky (64 *k+j)=b↔k=b.toNat / 64∧j=b.toNat % 64:=by
 have A:=js b;constructor
 · rintro rfl;simp only [EE];omega
 · rintro ⟨h1,h2⟩;refine lC.1 ?_;simp only [EE];omega
theorem Zs (f:UInt8→Bool) (b:UInt8) {k:Nat} (hk:k < 4):fw (fun x=>f x || decide (x=b)) k=if k=b.toNat / 64 then fw f k ||| 2 ^ (b.toNat % 64) else fw f k:=by
 split
 · rename_i h;refine (xP (EB (uJ f k)<|Am aw ab) fun j A=> ?_).symm;rw [Na,Nb];have h1:(fw f k).testBit j=f (ky<|64 *k+j):=by unfold fw; rw [vy,decide_eq_true A,xm]
   rw [h1];congr 1;exact decide_eq_decide.2<|by rw [AJ b hk A]; omega
 · rename_i h;refine (xP (uJ f k) fun j A=> ?_).symm;have h1:(fw f k).testBit j=f (ky<|64 *k+j):=by unfold fw; rw [vy,decide_eq_true A,xm]
   show _=(f (ky<|64 *k+j) || decide (ky (64 *k+j)=b))
   rw [h1,decide_eq_false (by rw [AJ b hk A]; omega),LR]
theorem Pv (f:UInt8→Bool) (b:UInt8):(eV f).set (b.toNat / 64) (.int .u64 ((fw f (b.toNat / 64) ||| 2 ^ (b.toNat % 64):Nat):Int))=eV (fun x=>f x || decide (x=b)):=by
 have A:=js b;apply qe;intro k;rw [mr,xV];by_cases hk:k < 4
 · rw [AW _ hk,AW _ hk,Zs f b hk];by_cases h:b.toNat / 64=k
   · subst h; simp [show b.toNat / 64 < 4 by omega]
   · rw [if_neg h,if_neg (fun e=>h e.symm)]
 · rw [tB (by rw [xV]; omega),tB (by rw [xV]; omega)];simp; omega
theorem Zr (f:UInt8→Bool) (b:UInt8):decide ((((fw f (b.toNat / 64) / 2 ^ (b.toNat % 64)) % 2:Nat):Int)=1)=f b:=by
 have A:=js b;have h1:(fw f<|b.toNat / 64).testBit (b.toNat % 64)=f b:=by
  unfold fw;rw [vy,decide_eq_true (Nat.mod_lt _ aw),xm,(AJ b (k:=b.toNat / 64) (j:=b.toNat % 64) ab<|Nat.mod_lt _ aw).2 ⟨rfl,rfl⟩]
 rw [← h1,Nat.testBit_eq_decide_div_mod_eq];exact decide_eq_decide.2 ab
theorem E6 (b:UInt8):sj.wrap (gI sj.bits (b.toNat:Int) &&& gI sj.bits 63).toNat=((b.toNat % 64:Nat):Int):=by
 have h:∀ r:Fin 256,sj.wrap (gI sj.bits ((r.val:Nat):Int) &&& gI sj.bits 63).toNat=((r.val % 64:Nat):Int):=by decide+kernel
 exact h ⟨b.toNat,js b⟩
theorem Kq (b:UInt8):(b.toNat:Int).fdiv (2 ^ min (6:Int).toNat sj.bits)=((b.toNat / 64:Nat):Int):=by
 have h:∀ r:Fin 256,((r.val:Nat):Int).fdiv (2 ^ min (6:Int).toNat sj.bits)=((r.val / 64:Nat):Int):=by decide+kernel
 exact h ⟨b.toNat,js b⟩
theorem Xr {m:Nat} (h:m < 64):eU.wrap ((1:Int)*2 ^ min ((m:Nat):Int).toNat eU.bits)=((2 ^ m:Nat):Int):=by
 have h2:(eU.bits:Nat)=64:=rfl;rw [kg,h2,qn ab,Int.one_mul];have h3:(2:Nat) ^ m < 2 ^ 64:=Am aw h;have h4:((2:Int) ^ m)=((2 ^ m:Nat):Int):=by simp
 rw [h4];obtain ⟨x,A⟩:∃ x:Nat,2 ^ m=x:=⟨_,rfl⟩
 rw [A] at h3 ⊢; exact qa ab
theorem VK {x y:Nat} (C:x < 2 ^ 64) (E:y < 2 ^ 64):eU.wrap (gI eU.bits (x:Int) ||| gI eU.bits (y:Int)).toNat=((x ||| y:Nat):Int):=by
 have A:(eU.bits:Nat)=64:=rfl;have h1:(gI eU.bits (x:Int) ||| gI eU.bits (y:Int)).toNat=x ||| y:=by
  rw [LQ,se,se,A];congr 1 <;> omega
 rw [h1];have :=EB C E;obtain ⟨z,G⟩:∃ z:Nat,x ||| y=z:=⟨_,rfl⟩
 rw [G] at this ⊢; exact qa ab
theorem Xz (x:Nat) {m:Nat} (h:m < 64):(x:Int).fdiv (2 ^ min ((m:Nat):Int).toNat eU.bits)=((x / 2 ^ m:Nat):Int):=by
 have h2:(eU.bits:Nat)=64:=rfl;rw [kg,h2,qn ab];rw [show ((2:Int) ^ m)=((2 ^ m:Nat):Int) by simp,Int.fdiv_eq_ediv_of_nonneg _ (Int.natCast_nonneg _)]; rfl
theorem NX {x:Nat} (C:x < 2 ^ 64):eU.wrap (gI eU.bits (x:Int) &&& gI eU.bits 1).toNat=((x % 2:Nat):Int):=by
 have A:(eU.bits:Nat)=64:=rfl;have h1:(gI eU.bits (x:Int) &&& gI eU.bits 1).toNat=x % 2:=by
  rw [BitVec.toNat_and,se,se,A,show ((x:Int) % ((2 ^ 64:Nat):Int)).toNat=x by omega];exact Nat.and_one_is_mod x
 rw [h1]; exact qa ab
section
variable {P:bH} {N:Fm} {σ:Nat→ag} {w:ak} {dst:Option Nat} {ty:bB} {pos :String} {af:Array fO} {g:Option (Nat×Bool)} {x:ek}
theorem xX {t:bB} {k:Nat} {f:UInt8→Bool} (G:ev N σ x= .int .u64 (fw f k)):(execOp (ev N σ) ⟨dst,.unOp .xor t x,ty,pos,af,g⟩).run P w= .ok (.value<|.int .u64<|fw (fun y=> !f y) k) w:=by
 have E:=uJ f k;have h1:eU.wrap (gI eU.bits eU.max ^^^ gI eU.bits (fw f k:Int)).toNat=(fw (fun y=> !f y) k:Int):=by
  have C:(eU.bits:Nat)=64:=rfl;have h2:(gI eU.bits eU.max ^^^ gI eU.bits (fw f k:Int)).toNat=fw (fun y=> !f y) k:=by
   rw [BitVec.toNat_xor,se,se,C,show (eU.max % ((2 ^ 64:Nat):Int)).toNat=2 ^ 64 - 1 from by decide,show ((fw f k:Int) % ((2 ^ 64:Nat):Int)).toNat=fw f k by omega];refine xP (Nat.xor_lt_two_pow aw E) fun j A=> ?_;rw [Nat.testBit_xor,Nat.testBit_two_pow_sub_one,decide_eq_true A,Bool.true_xor];congr 1;unfold fw; rw [vy,decide_eq_true A,xm]
  rw [h2]; have :=uJ (fun y=> !f y) k; exact qa ab
 have h3:(Op.intBits .xor eU eU.max (fw f k:Int)).run P w= .ok (.int .u64<|fw (fun y=> !f y) k) w:=by
  simp only [Op.intBits];rw [← h1]; rfl
 have h4:(Op.unary .xor<|.int eU (fw f k:Int)).run P w= .ok (.int .u64<|fw (fun y=> !f y) k) w:=by
  simp only [Op.unary];exact h3
 simp [execOp,G,h4]
end
def db (t:List UInt8) (b:UInt8):Bool:=
 if t.length=1 then decide (t.getD 0 0=46∨t.getD 0 0=b)
 else if t.getD 1 0=94 then !decide (b∈(t.take<|t.length - 1).drop 2)
 else decide (b∈(t.take<|t.length - 1).drop 1)
def iX:List UInt8→Option (List UInt8×List UInt8)
 | []=>none
 | b::l=>if b=91 then (if l.idxOf 93 < l.length∧l.idxOf 93≠0∧¬(l.idxOf 93=1∧l.getD 0 0=94) then some (b::l.take (l.idxOf 93 +1),l.drop (l.idxOf 93 +1)) else none) else some ([b],l)
theorem AQ {s t r:List UInt8} (h:iX s=some (t,r)):r.length < s.length:=by
 cases s with
 | nil=>cases h
 | cons b l=>
   simp only [iX] at h;split at h
   · split at h
     · simp only [gJ,vk] at h;obtain ⟨_,rfl⟩:=h;rw [fP,cC]; omega
     · cases h
   · simp only [gJ,vk] at h;obtain ⟨_,rfl⟩:=h;simp
def mH:Nat→List UInt8→Option (List<|List UInt8)
 | 0,s=>if s= [] then some [] else none
 | f+1,s=>if s= [] then some [] else match iX s with
   | none=>none
   | some (t,r)=>(mH f r).map (t:: ·)
theorem P8:∀ (f g:Nat) (s:List UInt8),s.length≤f→s.length≤g→mH f s=mH g s:=by
 intro f
 induction f with
 | zero=>intro g s h _; obtain rfl :=fY (by omega :s.length=0); cases g <;> simp [mH]
 | succ f A=>
   intro g s h1 h2;cases g with
   | zero=>obtain rfl :=fY (by omega :s.length=0); simp [mH]
   | succ g=>
     rw [mH,mH];split
     · rfl
     · cases hc:iX s with
       | none=>rfl
       | some q=>
         obtain ⟨t,r⟩:=q;have :=AQ hc;simp only;rw [A g r ab ab]
def ng (s:List UInt8):Option (List<|List UInt8):=mH s.length s
theorem P4:ng []=some []:=rfl
theorem P6 {s t r:List UInt8} (h:iX s=some (t,r)):ng s=(ng r).map (t:: ·):=by
 have A:=AQ h;unfold ng;obtain ⟨m,hm⟩:∃ m,s.length=m+1:=⟨s.length - 1,ab⟩
 have hs:s≠[]:=fun e=>by rw [e] at hm; simp at hm
 rw [hm,mH,if_neg hs,h];simp only;rw [P8 m r.length r ab (cE _)]
theorem P5 {s:List UInt8} (hs:s≠[]) (h:iX s=none):ng s=none:=by
 unfold ng;have A:=mu.2 hs;obtain ⟨m,hm⟩:∃ m,s.length=m+1:=⟨s.length - 1,ab⟩
 rw [hm,mH,if_neg hs,h]
def dj (s:List UInt8):List (List UInt8)×Nat:=
 if s= []∨512 < s.length then ([],40) else if s= [46] then ([],0) else match ng s with
  | none=>([],41)
  | some xs=>if 16 < xs.length then ([],42) else (xs,0)
def kN (s:List UInt8) (i:Nat) (A:List (List UInt8)):Prop :=ng s=(ng<|s.drop i).map (A++ ·)
theorem kN.start (s:List UInt8):kN s 0 []:=by
 unfold kN; rw [z1]; cases ng s <;> simp
theorem kN.step {s t r:List UInt8} {i j:Nat} {A:List (List UInt8)} (h:kN s i A) (C:iX (s.drop i)=some (t,r)) (E:r=s.drop j):kN s j (A++ [t]):=by
 subst E;unfold kN at*;rw [h,P6 C];cases ng (s.drop j) <;> simp
theorem kN.bad {s:List UInt8} {i:Nat} {A:List (List UInt8)} (h:kN s i A) (hi:i < s.length) (C:iX (s.drop i)=none):ng s=none:=by
 unfold kN at h;rw [h,P5 (fun e=>by have :=congrArg jr e; rw [fP,gr] at this; omega) C]; rfl
theorem kN.done {s:List UInt8} {i:Nat} {A:List (List UInt8)} (h:kN s i A) (hi:s.length≤i):ng s=some A:=by
 unfold kN at h;rw [h,List.drop_eq_nil_of_le hi,P4]; simp
theorem FE {b:UInt8} {l:List UInt8} (h:b≠91):iX (b::l)=some ([b],l):=by simp [iX,h]
theorem AR {b:UInt8} {l:List UInt8} (A:b=91) (h:l.idxOf 93 < l.length) (h1:l.idxOf 93≠0) (h2:¬(l.idxOf 93=1∧l.getD 0 0=94)):iX (b::l)=some (b::l.take (l.idxOf 93 +1),l.drop (l.idxOf 93 +1)):=by
 simp only [iX]; rw [if_pos A,if_pos ⟨h,h1,h2⟩]
theorem xU {b:UInt8} {l:List UInt8} (A:b=91) (h:¬(l.idxOf 93 < l.length∧l.idxOf 93≠0∧¬(l.idxOf 93=1∧l.getD 0 0=94))):iX (b::l)=none:=by
 simp only [iX]; rw [if_pos A,if_neg h]
def mG (f:UInt8→Bool) (i:Nat):List UInt8:=((gT i).map ky).filter f
def bytesOf (f:UInt8→Bool):List UInt8:=mG f 256
theorem tT (f:UInt8→Bool) (i:Nat):mG f (i+1)=mG f i++(if f (ky i)=true then [ky i] else []):=by
 unfold mG;rw [xA,gS,q9];congr 1;cases h:f (ky i) <;> simp [h]
theorem rA (f:UInt8→Bool) (i:Nat):(mG f i).length≤i:=by
 unfold mG;refine e7 (qg _ _) ?_;simp
theorem Fp (f:UInt8→Bool) (b:UInt8):b∈bytesOf f↔f b=true :=by
 unfold bytesOf mG;rw [qh];refine ⟨fun h=>h.2,fun h=>⟨?_,h⟩⟩;rw [je];exact ⟨b.toNat,qi.2 (js b),by simp⟩
theorem Ot (f:UInt8→Bool):(bytesOf f).Nodup:=by
 unfold bytesOf mG;refine List.Nodup.sublist MJ ?_;rw [MY,Ex];refine ZV ?_<|MY.1 List.nodup_range;intro a b A C E e;have h1:=qi.1 A;have h2:=qi.1 C;have :=congrArg ED e;simp only [EE] at this;omega
theorem Ov (f:UInt8→Bool):∀ i,(mG f i).length+(mG (fun b=> !f b) i).length=i:=by
 intro i
 induction i with
 | zero=>rfl
 | succ i A=>
   rw [tT,tT,bG,bG];cases h:f (ky i) <;> simp [h] <;> omega
theorem Fo {f g:UInt8→Bool} (h:∀ b,f b=g b):bytesOf f=bytesOf g:=by rw [show f=g from funext h]
def j6 (f:UInt8→Bool):List UInt8:=
 if (bytesOf f).length=256 then [46]
 else if (bytesOf f).length=1∧(bytesOf f).getD 0 0≠46∧(bytesOf f).getD 0 0≠91 then bytesOf f
 else if f 93=true then [91,94]++bytesOf (fun b=> !f b)++ [93]
 else [91]++((bytesOf f).filter (fun b=>decide (b≠94))++(if 94∈bytesOf f then [94] else []))++ [93]
def mQ (ps:List (List UInt8)):List UInt8:=if ps= [] then [46] else ps.flatMap fun t=>j6<|db t
theorem De (f:UInt8→Bool):(j6 f).length≤300:=by
 have h1:=rA f 256;have h2:=rA (fun b=> !f b) 256;unfold j6;split
 · simp
 · split
   · unfold bytesOf; omega
   · split
     · simp only [bG,cC,gr]; unfold bytesOf; omega
     · have h3:=qg (fun b=>decide (b≠94))<|bytesOf f;have h4:(if 94∈bytesOf f then [(94:UInt8)] else []).length≤1:=by split <;> simp
       simp only [bG,cC,gr];have h5:(bytesOf f).length≤256:=h1;omega
theorem Tv {l:List UInt8} (hn:l.Nodup) {c:UInt8} (h:l.idxOf c < l.length):l.take (l.idxOf c)++l.drop (l.idxOf c+1)=l.filter (fun b=>decide (b≠c)):=by
 induction l with
 | nil=>simp at h
 | cons b l E=>
   rw [Ew] at hn;by_cases A:b=c
   · subst A;simp only [List.idxOf_cons_self,pH,qj,im,zY,z1];rw [MG (by simp)];exact (z7.2 fun x C=>by simp; rintro rfl; exact hn.1 C).symm
   · have e:(b::l).idxOf c=l.idxOf c+1:=by rw [uZ,show (b==c)=false from by simpa using A]; rfl
     rw [e] at h ⊢;simp only [cC] at h;rw [qm,zY,Mz,E hn.2 ab,MH (by simpa using A)]
theorem Jl {l:List UInt8} {c:UInt8} (h:¬c∈l):l.filter (fun b=>decide (b≠c))=l:=
 z7.2 fun x A=>by simp; rintro rfl; exact h A
def lK (ps:List (List UInt8)):List ag:=ps.flatMap fun t=>eV<|db t
theorem Pu (a b:List (List UInt8)):lK (a++b)=lK a++lK b:=by simp [lK]
end Go.Hb
end
section
namespace Go.Hb
abbrev Tx:Type :=List UInt8
structure di where
 flag:Nat
 kind:Nat
 eB:Bool
 first :Nat
 count:Nat
structure cJ where
 kind:Nat
 flag:Nat
 eB:Bool
 strip:Tx
 add:Tx
 cond:Tx
 next :List Nat
 line:Nat
structure aE where
 kind:Nat
 sL:Tx
 tr:Tx
 sp:List Nat
 least:Nat
 dp:List (Tx×Tx)
 aliases:List (List Nat)
 bw:List di
 rules:List cJ
def iN:Tx:= [70,76,65,71]
def ja:Tx:= [83,69,84]
def jj:Tx:= [84,82,89]
def kH:Tx:= [78,69,69,68,65,70,70,73,88]
def kW:Tx:= [70,79,82,66,73,68,68,69,78,87,79,82,68]
def lk:Tx:= [75,69,69,80,67,65,83,69]
def lP:Tx:= [67,79,77,80,79,85,78,68,70,76,65,71]
def l8:Tx:= [78,79,83,85,71,71,69,83,84]
def kG:Tx:= [67,79,77,80,79,85,78,68,77,73,78]
def fA:Tx:= [82,69,80]
def eN:Tx:= [65,70]
def fU:Tx:= [80,70,88]
def dt:Tx:= [83,70,88]
def sT:Tx:= [115,104,111,114,116]
def ui:Tx:= [108,111,110,103]
def vS:Tx:= [110,117,109]
def eh:List Tx:= [kH,kW,lk,lP,l8]
def width (k:Tx):Nat:=if k∈eh∨k=iN∨k=ja∨k=jj∨k=kG∨k=fA∨k=eN then 2 else if k=fU∨k=dt then 4 else 0
def hZ (w:Tx):Nat:=if w= []∨gL w=false then 21 else if 32 < w.length then 22 else 0
def eG (none:Bool) (fd:Tx):Except Nat Tx:=
 if none=true∧fd= [48] then .ok []
 else if (bD fd).2.2.2≠0 then .error (bD fd).2.2.2
 else if (bD fd).2.2.1=true then .error 114
 else if hZ (bD fd).1≠0 then .error (hZ (bD fd).1)
 else .ok (bD fd).1
def eb (cs:List di) (x:Nat):Option di:=cs.find? fun c=>decide (c.flag=x)
def eM (f:aE) (x:Nat):Bool:=decide (x∈f.sp) || (eb f.bw x).isSome
noncomputable def ic (f:aE) (s:Tx):Except Nat Nat:=
 if (ir f.kind s).2≠0 then .error (ir f.kind s).2 else if eM f (ir f.kind s).1=true then .error 115 else .ok (ir f.kind s).1
noncomputable def lj (kind:Nat) (s:Tx):Except Nat (List Nat):=if (ed kind s).2≠0 then .error (ed kind s).2 else .ok (ed kind s).1
noncomputable def e8 (s:Tx) (most:Int):Except Nat Nat:=if (ee s most).2≠0 then .error 13 else .ok (ee s most).1
noncomputable def gx (kind:Nat) (al:List (List Nat)) (s:Tx):Except Nat (List Nat):=
 if al= [] then lj kind s
 else match e8 s al.length with
  | .error _=> .error 13
  | .ok n=>if n=0 then .error 13 else .ok (al.getD (n - 1) [])
noncomputable def ll (kind:Nat) (al:List (List Nat)) (A:Nat) (r:lZ):Except Nat (List Nat):=
 if r.2.2.1=true then (if A=1 then .error 118 else gx kind al r.2.1) else .ok []
def lg (row:List Tx):Except Nat Tx:=
 if row.length=5 then (if gL (row.getD 4 [])=false then .error 21 else if (dj<|row.getD 4 []).2≠0 then .error (dj<|row.getD 4 []).2 else .ok (mQ (dj<|row.getD 4 []).1)) else .ok [46]
def j8 (r:lZ):Except Nat Tx:=if r.2.2.2≠0 then .error r.2.2.2 else if r.1= [48] then .ok [] else if hZ r.1≠0 then .error (hZ r.1) else .ok r.1
noncomputable def fV (kind:Nat) (al:List (List Nat)) (c:di) (ln:Nat) (row:List Tx):Except Nat cJ:=
 if row.length≠4∧row.length≠5 then .error 111
 else match eG true (row.getD 2 []) with
  | .error e=> .error e
  | .ok st=>match j8 (bD<|row.getD 3 []) with
    | .error e=> .error e
    | .ok ad=>match ll kind al c.kind (bD<|row.getD 3 []) with
      | .error e=> .error e
      | .ok nx=>match lg row with
        | .error e=> .error e
        | .ok cd=> .ok ⟨c.kind,c.flag,c.eB,st,ad,cd,nx,ln⟩
def k0 (ln:Nat) (row:List Tx):Except Nat (Tx×Tx):=
 if row.length≠3 then .error 111
 else match eG false (row.getD 1 []) with
  | .error e=> .error e
  | .ok a=>match eG true (row.getD 2 []) with
    | .error e=> .error e
    | .ok b=> .ok (a,b)
noncomputable def kS (kind:Nat) (ln:Nat) (row:List Tx):Except Nat (List Nat):=if row.length≠2 then .error 111 else lj kind (row.getD 1 [])
def group {α:Type} (hd:List Tx) (rd:Nat→List Tx→Except Nat α) (eof:Nat):Nat→List Rw→Except (Nat×Nat) (List α×List Rw)
 | 0,rows=> .ok ([],rows)
 | _+1,[]=> .error (eof,116)
 | n+1,(ln,row)::rows=>if row.take hd.length≠hd then .error (ln,116) else match rd ln row with
   | .error e=> .error (ln,e)
   | .ok x=>match group hd rd eof n rows with
     | .error e=> .error e
     | .ok r=> .ok (x::r.1,r.2)
def j4 (s:Tx):Nat:=if s=sT then 1 else if s=ui then 2 else if s=vS then 3 else 0
def ordered (hs:List Tx):Bool:= !hs.any fun h=>decide (h∈eh∨h=eN∨h=fU∨h=dt)
noncomputable def hU (eof:Nat) (f:aE) (rows:List Rw) (ln:Nat) (row:List Tx):Except (Nat×Nat) (aE×List Rw):=
 match ic f (row.getD 1 []) with
 | .error e=> .error (ln,e)
 | .ok x=>if row.getD 2 []≠[89]∧row.getD 2 []≠[78] then .error (ln,114)
   else match e8 (row.getD 3 []) 1024 with
    | .error e=> .error (ln,e)
    | .ok n=>if 1024 < f.rules.length+n then .error (ln,117)
      else match group [row.getD 0 [],row.getD 1 []] (fV f.kind f.aliases ⟨x,if row.getD 0 []=dt then 2 else 1,decide (row.getD 2 []= [89]),f.rules.length,n⟩) eof n rows with
       | .error e=> .error e
       | .ok r=> .ok ({f with bw:=f.bw++ [⟨x,if row.getD 0 []=dt then 2 else 1,decide (row.getD 2 []= [89]),f.rules.length,n⟩],rules:=f.rules++r.1},r.2)
noncomputable def kp (f:aE) (rows:List Rw) (ln:Nat) (row:List Tx):Except (Nat×Nat) (aE×List Rw):=
 match ic f (row.getD 1 []) with
 | .error e=> .error (ln,e)
 | .ok x=> .ok ({f with sp:=f.sp.set (eh.idxOf<|row.getD 0 []) x},rows)
def kI (f:aE) (hs:List Tx) (rows:List Rw) (ln:Nat) (row:List Tx):Except (Nat×Nat) (aE×List Rw):=
 if ordered hs=false then .error (ln,113) else if j4 (row.getD 1 [])=0 then .error (ln,114) else .ok ({f with kind:=j4<|row.getD 1 []},rows)
def mP (f:aE) (rows:List Rw) (ln:Nat) (row:List Tx):Except (Nat×Nat) (aE×List Rw):=
 if gL (row.getD 1 [])=false then .error (ln,21) else .ok ({f with sL:=row.getD 1 []},rows)
def mT (f:aE) (rows:List Rw) (ln:Nat) (row:List Tx):Except (Nat×Nat) (aE×List Rw):=
 if (letE<|row.getD 1 []).2≠0 then .error (ln,(letE<|row.getD 1 []).2) else .ok ({f with tr:=(letE<|row.getD 1 []).1},rows)
noncomputable def kX (f:aE) (rows:List Rw) (ln:Nat) (row:List Tx):Except (Nat×Nat) (aE×List Rw):=
 match e8 (row.getD 1 []) 64 with
 | .error e=> .error (ln,e)
 | .ok n=>if n=0 then .error (ln,13) else .ok ({f with least:=n},rows)
noncomputable def ko (eof:Nat) (f:aE) (rows:List Rw) (ln:Nat) (row:List Tx):Except (Nat×Nat) (aE×List Rw):=
 match e8 (row.getD 1 []) 256 with
 | .error e=> .error (ln,e)
 | .ok n=>match group [fA] k0 eof n rows with
   | .error e=> .error e
   | .ok r=> .ok ({f with dp:=f.dp++r.1},r.2)
noncomputable def j9 (eof:Nat) (f:aE) (hs:List Tx) (rows:List Rw) (ln:Nat) (row:List Tx):Except (Nat×Nat) (aE×List Rw):=
 if fU∈hs∨dt∈hs then .error (ln,113)
 else match e8 (row.getD 1 []) 1024 with
  | .error e=> .error (ln,e)
  | .ok n=>match group [eN] (kS f.kind) eof n rows with
    | .error e=> .error e
    | .ok r=> .ok ({f with aliases:=f.aliases++r.1},r.2)
noncomputable def ca (eof:Nat) (f:aE) (hs:List Tx) (rows:List Rw) (ln:Nat) (row:List Tx):Except (Nat×Nat) (aE×List Rw):=
 if row.getD 0 []∈eh then kp f rows ln row
 else if row.getD 0 []=iN then kI f hs rows ln row
 else if row.getD 0 []=ja then mP f rows ln row
 else if row.getD 0 []=jj then mT f rows ln row
 else if row.getD 0 []=kG then kX f rows ln row
 else if row.getD 0 []=fA then ko eof f rows ln row
 else if row.getD 0 []=eN then j9 eof f hs rows ln row
 else hU eof f rows ln row
noncomputable def ij (eof:Nat):Nat→aE→List Tx→List Rw→Except (Nat×Nat) aE
 | 0,f,_,rows=>if rows= [] then .ok f else .error (0,0)
 | _+1,f,_,[]=> .ok f
 | k+1,f,hs,(ln,row)::rows=>
   if width (row.getD 0 [])=0 then .error (ln,110)
   else if row.length≠width (row.getD 0 []) then .error (ln,111)
   else if width (row.getD 0 [])=2∧row.getD 0 []∈hs then .error (ln,112)
   else match ca eof f hs rows ln row with
    | .error e=> .error e
    | .ok r=>ij eof k r.1 (hs++ [row.getD 0 []]) r.2
def nz (f:aE) (x:Nat):Bool:=decide (x=f.sp.getD 0 0) || (match eb f.bw x with | some c=>decide (c.kind=2) | none=>false)
def oO (f:aE) (r:cJ):Bool:=r.next.any fun x=> !nz f x
def iJ:aE:=⟨1,[],[],[0,0,0,0,0],3,[],[],[],[]⟩
noncomputable def fH (t:Tx):Except (Nat×Nat) aE:=
 if 65536 < t.length then .error (0,10)
 else match ij ((bL t).length+1) (bT t).length iJ [] (bT t) with
  | .error e=> .error e
  | .ok f=>match f.rules.find? (oO f) with
    | some r=> .error (r.line,118)
    | none=> .ok f
theorem vO {α:Type} {hd:List Tx} {rd:Nat→List Tx→Except Nat α} {eof:Nat} :∀ (n:Nat) (rows:List Rw) (r:List α×List Rw),group hd rd eof n rows= .ok r→r.2.length≤rows.length∧r.1.length=n∧∀ q∈r.2,q∈rows:=by
 intro n
 induction n with
 | zero=>intro rows r h; simp only [group,tk] at h; subst h; exact ⟨cE _,rfl,fun q A=>A⟩
 | succ n C=>
   intro rows r h;cases rows with
   | nil=>simp [group] at h
   | cons q rows=>
     obtain ⟨ln,row⟩:=q;simp only [group] at h;split at h
     · cases h
     · cases hr:rd ln row with
       | error e=>rw [hr] at h; cases h
       | ok x=>
         rw [hr] at h;simp only at h;cases hg:group hd rd eof n rows with
         | error e=>rw [hg] at h; cases h
         | ok E=>
           rw [hg] at h;simp only [tk] at h;subst h;have :=C rows E hg;refine ⟨by simp only [cC]; omega,by simp only [cC]; omega,fun q A=>nO _<|this.2.2 q A⟩
def ju {α:Type} (hd:List Tx) (rd:Nat→List Tx→Except Nat α) (eof:Nat) (T:Except (Nat×Nat) (List α×List Rw)) (xs:List α) (n:Nat) (rows:List Rw):Prop :=
 T=match group hd rd eof n rows with
  | .error e=> .error e
  | .ok r=> .ok (xs++r.1,r.2)
theorem ju.start {α:Type} {hd:List Tx} {rd:Nat→List Tx→Except Nat α} {eof n:Nat} {rows:List Rw} :ju hd rd eof (group hd rd eof n rows) [] n rows:=by
 unfold ju; cases group hd rd eof n rows <;> rfl
section
variable {α:Type} {hd:List Tx} {rd:Nat→List Tx→Except Nat α} {eof n:Nat} {T:Except (Nat×Nat) (List α×List Rw)} {xs:List α} {rows:List Rw} {ln:Nat} {row:List Tx}
theorem ju.ends (h:ju hd rd eof T xs n []) (hn:0 < n):T= .error (eof,116):=by
 obtain ⟨m,rfl⟩:∃ m,n=m+1:=⟨n - 1,ab⟩
 exact h
theorem ju.other (h:ju hd rd eof T xs n ((ln,row)::rows)) (hn:0 < n) (A:row.take hd.length≠hd):T= .error (ln,116):=by
 obtain ⟨m,rfl⟩:∃ m,n=m+1:=⟨n - 1,ab⟩
 unfold ju at h; simp only [group] at h; rw [if_pos A] at h; exact h
theorem ju.bad {e:Nat} (h:ju hd rd eof T xs n ((ln,row)::rows)) (hn:0 < n) (A:row.take hd.length=hd) (he:rd ln row= .error e):T= .error (ln,e):=by
 obtain ⟨m,rfl⟩:∃ m,n=m+1:=⟨n - 1,ab⟩
 unfold ju at h; simp only [group] at h; rw [if_neg (fun h2=>h2 A),he] at h; exact h
theorem ju.step {x:α} (h:ju hd rd eof T xs n ((ln,row)::rows)) (hn:0 < n) (A:row.take hd.length=hd) (he:rd ln row= .ok x):ju hd rd eof T (xs++ [x]) (n - 1) rows:=by
 obtain ⟨m,rfl⟩:∃ m,n=m+1:=⟨n - 1,ab⟩
 unfold ju at h ⊢; simp only [group] at h; rw [if_neg (fun h2=>h2 A),he] at h;simp only [tE] at h ⊢;rw [h];cases group hd rd eof m rows with
 | error e=>rfl
 | ok r=>simp only [eX]; rfl
theorem ju.done (h:ju hd rd eof T xs 0 rows):T= .ok (xs,rows):=by
 unfold ju at h; simpa [group] using h
end
end Go.Hb
end
section
set_option linter.unusedSimpArgs false
namespace Go.Hb
open Classical
structure mD (P:bH) (k:bB) (isK:ag→Prop):Prop where
 key:vo P k isK
 stays:∀ w v,isK v→(D2 v v).run P w= .ok v w
def jN (v:ag):Prop := ∃ s:List UInt8,v=str s
def kV (q:ew) (v:ag):Prop := ∃ a:Int,v= .int q a
theorem G7 {d:TypeDesc} {isK:ag→Prop} (hs:∀ x y,isK x→isK y→∃ A,D5 d x y=some A∧(A=true↔x=y)) {x:ag} (G:isK x):∀ (es:List MapEntry) (i:Nat),(∀ e∈es,isK e.key)→
 (tt d x es i=some none∧∀ e∈es,e.key≠x)∨∃ j e,tt d x es i=some (some (i+j,e.val))∧es[j]? =some e∧e.key=x
 | [],i,_=> .inl ⟨rfl,fun _ h=>by simp at h⟩
 | e::es,i,h=>by
   obtain ⟨A,h1,h2⟩:=hs x e.key G<|h e<|by simp
   cases A with
   | true =>exact .inr ⟨0,e,by simp [tt,h1],rfl,(h2.1 rfl).symm⟩
   | false =>
     have J:e.key≠x:=fun I=>by cases h2.2 I.symm
     rcases G7 hs G es (i+1) (fun e he=>h e<|by simp [he]) with ⟨h3,h4⟩ | ⟨j,C,h3,h4,h5⟩
     · refine .inl ⟨by simp [tt,h1,h3],fun C E=> ?_⟩;rcases fi.1 E with rfl | E
       · exact J
       · exact h4 C E
     · refine .inr ⟨j+1,C,?_,h4,h5⟩;simp only [tt,h1,h3]; rw [show i+1 +j=i+(j+1) from by omega]
theorem IA {P:bH} {k:bB} {d:TypeDesc} {isK:ag→Prop} (hk:P.underlying k=some d) (hs:∀ x y,isK x→isK y→∃ A,D5 d x y=some A∧(A=true↔x=y)) (C:∀ em w v,isK v→(pw em 10000 k v).run P w= .ok () w):vo P k isK where
 check:=C
 find w x es hx hes:=by
  rcases G7 hs hx es 0 hes with ⟨h1,h2⟩ | ⟨j,e,h1,h2,h3⟩
  · exact .inl ⟨by simp [tq,dV hk,h1],h2⟩
  · exact .inr ⟨j,e,by simp [tq,dV hk,h1],h2,h3⟩
theorem AH (a b:ByteArray):(a==b)=decide (a=b):=by
 rw [sg,decide_eq_true_iff];show ((a.data==b.data)=true)↔_;rw [beq_iff_eq];exact ⟨fun h=>by cases a; cases b; cases h; rfl,fun h=>by rw [h]⟩
theorem Ue {P:bH} {k:bB} (hk:P.underlying k=some .string):mD P k jN where
 key:=IA hk (by
  rintro _ _ ⟨a,rfl⟩ ⟨b,rfl⟩;refine ⟨_,aa,?_⟩;rw [AH,decide_eq_true_iff];constructor
  · intro h; unfold str; rw [h]
  · intro h; unfold str at h; cases h; rfl) (by rintro em w _ ⟨a,rfl⟩; exact FD (n:=9999) hk w)
 stays w v hv:=by obtain ⟨a,rfl⟩:=hv; simp [D2,Mc,str,AH]
theorem OU {P:bH} {k:bB} {q r:ew} {em:Bool} {n:Nat} {a:Int} (hk:P.underlying k=some (.int q)) (w:ak):(pw em (n+1) k<|.int r a).run P w= .ok () w:=by
 simp only [pw,oF,dV hk,oE,q8]
theorem Iz {P:bH} {k:bB} {q r:ew} (hk:P.underlying k=some (.int q)):mD P k (kV r) where
 key:=IA hk (by
  rintro _ _ ⟨a,rfl⟩ ⟨b,rfl⟩;refine ⟨decide (a=b),by simp [D5]; rfl,?_⟩;rw [decide_eq_true_iff];exact ⟨fun h=>by rw [h],fun h=>by cases h; rfl⟩) (by rintro em w _ ⟨a,rfl⟩; exact OU (n:=9999) hk w)
 stays w v hv:=by obtain ⟨a,rfl⟩:=hv; simp [D2,Mc]
def cR (h:Array Obj) (b:Nat) (isK:ag→Prop) (f:ag→Option ag):Prop :=
 ∃ kvs,sF h b kvs∧(∀ p∈kvs,isK p.1)∧(kvs.map gU).Nodup∧∀ k v,f k=some v↔(k,v)∈kvs
theorem cR.md {F:Nat→Prop} {w w':ak} {b:Nat} {isK:ag→Prop} {f:ag→Option ag} (h:cR w.heap b isK f) (hm:Md F w w') (A:¬F b):cR w'.heap b isK f:=
 let ⟨kvs,h1,h2⟩:=h; ⟨kvs,h1.md hm A,h2⟩
theorem cR.wk {w w':ak} {b:Nat} {isK:ag→Prop} {f:ag→Option ag} (h:cR w.heap b isK f) (hm:Wk w w'):cR w'.heap b isK f:=h.md hm id
theorem cR.nil {h:Array Obj} {b:Nat} {isK:ag→Prop} {c:Nat} (hm:h[b]? =some (.map #[] c)):cR h b isK fun _=>none:=
 ⟨[],⟨_,_,hm,rfl⟩,fun p hp=>(by simp at hp),(by simp),fun k v=>by simp⟩
theorem cR.isMap {h:Array Obj} {b:Nat} {isK:ag→Prop} {f:ag→Option ag} (hm:cR h b isK f):∃ es c,h[b]? =some (.map es c):=let ⟨_,⟨es,c,h1,_⟩,_⟩:=hm; ⟨es,c,h1⟩
theorem cR.o7 {h:Array Obj} {b:Nat} {isK:ag→Prop} {f:ag→Option ag} (hm:cR h b isK f) {cur:Array ag} {e:bB} {z:Nat×Nat} :h[b]?≠some (.cells cur e z):=by
 obtain ⟨es,c,h1⟩:=hm.isMap; rw [h1]; intro h; cases h
noncomputable def bM (f:ag→Option ag) (k v:ag):ag→Option ag:=fun q=>if q=k then some v else f q
theorem ow (f:ag→Option ag) (k v:ag):bM f k v k=some v:=if_pos rfl
theorem me {f:ag→Option ag} {k v q:ag} (h:q≠k):bM f k v q=f q:=if_neg h
section
variable {P:bH} {N:Fm} {σ:Nat→ag} {w:ak} {dst:Option Nat} {ty:bB} {pos :String} {af:Array fO} {g:Option (Nat×Bool)} {x y z:ek} {K:(Nat→ag)→ak→Prop}
variable {t k e:bB} {isK:ag→Prop} {b:Nat} {f:ag→Option ag} {kx v zv:ag}
theorem IN {ok:Bool} (E:P.underlying t=some (.map k e)) (J:zeroV P e=some zv) (C:mD P k isK) (hm:cR w.heap b isK f) (G:ev N σ x= .map (some b)) (I:ev N σ y=kx) (hi:isK kx):
 (execOp (ev N σ) ⟨dst,.lookup t x y ok,ty,pos,af,g⟩).run P w= .ok (.value (if ok then .tuple #[(f kx).getD zv,.bool (f kx).isSome] else (f kx).getD zv)) w:=by
 obtain ⟨kvs,h1,h2,h3,h4⟩:=hm;cases hf:f kx with
 | none=>exact UA E J C.key h1 h2 G I hi fun v A=>by rw [← h4] at A; rw [hf] at A; cases A
 | some v=>exact Uz E C.key h1 h2 G I hi h3<|(h4 kx v).1 hf
theorem mL (C:P.underlying t=some (.map k e)) (J:zeroV P e=some zv) (A:mD P k isK) (hm:cR w.heap b isK f) (G:ev N σ x= .map (some b)) (I:ev N σ y=kx) (hi:isK kx) (E:(f kx).getD zv=v):
 (execOp (ev N σ) ⟨dst,.lookup t x y false,ty,pos,af,g⟩).run P w= .ok (.value v) w:=by
 rw [IN C J A hm G I hi,E]; rfl
theorem IP {ob:Bool} (E:P.underlying t=some (.map k e)) (O:zeroV P e=some zv) (A:mD P k isK) (hm:cR w.heap b isK f) (I:ev N σ x= .map (some b)) (J:ev N σ y=kx) (hi:isK kx) (G:(f kx).getD zv=v) (C:(f kx).isSome=ob):
 (execOp (ev N σ) ⟨dst,.lookup t x y true,ty,pos,af,g⟩).run P w= .ok (.value<|.tuple #[v,.bool ob]) w:=by
 rw [IN E O A hm I J hi,G,C]; rfl
theorem Ll (ah:P.underlying t=some (.map k e)) (O:mD P k isK) (hm:cR w.heap b isK f) (hi:isK kx):
 ∃ w',(D4 t (.map<|some b) kx v).run P w= .ok () w'∧Md (fun j=>j=b) w w'∧cR w'.heap b isK (bM f kx v):=by
 obtain ⟨kvs,⟨es,c,J,he⟩,h2,h3,h4⟩:=hm;have Z:=(dD.1 J).1;rcases O.key.find w kx es.toList hi (Bi he h2) with ⟨h1,ap⟩ | ⟨j,Y,h1,E,h5⟩
 · have ag:∀ u,(kx,u)∉kvs:=fun u hu=>by
    rw [← he] at hu;obtain ⟨ai,am,aj⟩:=je.1 hu;cases aj;exact ap ai am aa
   refine ⟨{w with heap:=w.heap.setIfInBounds b<|.map (es.push {key:=kx,val:=v,born:=c})<|c+1},by simp [D4,dV ah,run_getObj_map J,O.key.check _ w kx hi,h1,setObj,tx,J],⟨aa,aa,by simp,fun i _ G=>by simp only; rw [uO (fun e=>G e.symm)]⟩,kvs++ [(kx,v)],⟨_,_,by simp only; rw [uP Z],by simp [he]⟩,?_,?_,?_⟩
   · intro p hp;rcases jT.1 hp with hp | hp
     · exact h2 p hp
     · rw [iS.1 hp]; exact hi
   · rw [gS,xy];refine ⟨h3,by simp,?_⟩;intro a ak au ab al;simp at ab;subst al ab;obtain ⟨p,hp,aq⟩:=je.1 ak;exact ag p.2<|by rw [← aq]; exact hp
   · intro q u;unfold bM;rw [jT,iS];by_cases C:q=kx
     · subst C;rw [if_pos rfl];constructor
       · intro h; cases h; exact .inr rfl
       · rintro (h | h)
         · exact absurd h<|ag u
         · cases h; rfl
     · rw [if_neg C,h4];constructor
       · exact .inl
       · rintro (h | h)
         · exact h
         · cases h; exact absurd rfl C
 · have av:j < es.size:=by have :=(ff.1 E).1; simpa using this
   have ac:es[j]? =some Y:=by simpa using E
   refine ⟨{w with heap:=w.heap.setIfInBounds b<|.map (es.modify j fun e=> {e with key:=kx,val:=v}) c},?_,⟨aa,aa,by simp,fun i _ G=>by simp only; rw [uO (fun e=>G e.symm)]⟩,kvs.set j (kx,v),⟨_,_,by simp only; rw [uP Z],?_⟩,?_,?_,?_⟩
   · have hs:=O.stays w kx hi;simp [D4,dV ah,run_getObj_map J,O.key.check _ w kx hi,h1,ac,h5,hs,setObj,tx,J]
   · rw [← he];apply qe;intro i;simp only [zP,fJ,MQ,mr,fC];by_cases I:j=i
     · subst I; rw [E]; simp; have :=(ff.1 E).1; simpa using this
     · simp [I]
   · intro p hp;rcases MX hp with hp | hp
     · exact h2 p hp
     · rw [hp]; exact hi
   · have :(kvs.set j (kx,v)).map gU=kvs.map gU:=by
      apply qe;intro i;simp only [fJ,mr];by_cases I:j=i
      · subst I;rw [← he]; simp only [fJ,E,fC];have :=(ff.1 E).1;simp [this,h5];simpa using this
      · simp [I]
     rw [this]; exact h3
   · intro q u;have V:kvs[j]? =some (kx,Y.val):=by rw [← he]; simp [E,h5,ac]
     have ae:=(ff.1 V).1;have ao:(kx,v)∈kvs.set j (kx,v):=gB (i:=j)<|by rw [mr,if_pos rfl,if_pos ae]
     unfold bM;by_cases C:q=kx
     · subst C;rw [if_pos rfl];constructor
       · intro h; cases h; exact ao
       · intro h;obtain ⟨i,A⟩:=Ab h;rw [mr] at A;split at A
         · rename_i an;subst an;cases A; rfl
         · rename_i G;exfalso;exact G<|(Es (i:=j) (j:=i) (by simpa using ae) h3).1<|by simp [V,A]
     · rw [if_neg C,h4];constructor
       · intro h;obtain ⟨i,A⟩:=Ab h;have G:j≠i:=by rintro rfl; rw [V] at A; cases A; exact C rfl
         exact gB (i:=i)<|by rw [mr,if_neg G]; exact A
       · intro h;rcases MX h with h | h
         · exact h
         · cases h; exact absurd rfl C
theorem tc (E:P.underlying t=some (.map k e)) (A:mD P k isK) (hm:cR w.heap b isK f) (G:ev N σ x= .map (some b)) (I:ev N σ y=kx) (J:ev N σ z=v) (hi:isK kx)
 (O:∀ w',Md (fun j=>j=b) w w'→cR w'.heap b isK (bM f kx v)→K σ w'):dI P N ⟨none,.mapUpdate t x y z,ty,pos,af,g⟩ σ w K:=by
 obtain ⟨w',h1,h2,h3⟩:=Ll (v:=v) E A hm hi;have C:(execOp (ev N σ) ⟨none,.mapUpdate t x y z,ty,pos,af,g⟩).run P w= .ok .skip w':=by
  simp [execOp,G,I,J,h1]
 unfold dI kr;rw [jv,C];exact ⟨σ,aa,O w' h2 h3⟩
theorem nu (E:P.underlying t=some (.map k e)) (A:mD P k isK) (hm:cR w.heap b isK f) (G:ev N σ x= .map (some b)) (I:ev N σ y=kx) (J:ev N σ z=v) (hi:isK kx)
 (O:∀ w',Md (fun j=>j=b) w w'→cR w'.heap b isK (bM f kx v)→K σ w'):dI P N ⟨none,.insert t x y z,ty,pos,af,g⟩ σ w K:=by
 obtain ⟨w',h1,h2,h3⟩:=Ll (v:=v) E A hm hi;have C:(execOp (ev N σ) ⟨none,.insert t x y z,ty,pos,af,g⟩).run P w= .ok .skip w':=by
  simp [execOp,G,I,J,h1]
 unfold dI kr;rw [jv,C];exact ⟨σ,aa,O w' h2 h3⟩
end
end Go.Hb
end
section
namespace Go.Hb
section
variable {P:bH} {N:Fm} {σ:Nat→ag} {w:ak} {fn:lz} {R:ag→ak→Prop}
theorem UJ {t b off :Nat} {v:ag} (hu:fK P t=some none) (A:Hb.aV w.heap b off =some v):(loadVar t ⟨b,off,none⟩).run P w= .ok v w:=by
 have C:w.cell? ⟨b,off,none⟩=some v:=by rw [nW]; exact A
 unfold fK at hu;cases hd:P.underlying t with
 | none=>rw [hd] at hu; cases hu
 | some d=>
   rw [hd] at hu;cases d <;> first
    | (simp only [mZ] at hu; obtain ⟨_,_,h⟩:=hu; cases h; done)
    | simp [loadVar,isAgg,dV hd,run_load,C]
theorem UK {t n b off :Nat} {cs:List ag} (hu:fK P t=some (some n)) (G:cs.length=n) (C:∀ j,j < n→Hb.aV w.heap b (off+j)=cs[j]?):(loadVar t ⟨b,off,none⟩).run P w= .ok (.agg cs.toArray) w:=by
 have E:(loadCells ⟨b,off,none⟩ n).run P w= .ok cs.toArray w:=by
  subst G;refine run_loadCells_list (P:=P) w ⟨b,off,none⟩ cs fun j v A=> ?_;rw [mE,nW];exact (C j (ff.1 A).1).trans A
 unfold fK at hu;cases hd:P.underlying t with
 | none=>rw [hd] at hu; cases hu
 | some d=>
   rw [hd] at hu;cases hi:P.info? t with
   | none=>simp [Mi,hi] at hd
   | some i=>
     rw [hi] at hu;cases d <;> first
      | (cases hu; done)
      | (simp only [lB,gJ] at hu; subst hu
         simp [loadVar,isAgg,dV hd,sizeOf,jn hi,E])
def oM (P:bH) (N:Fm) (σ:Nat→ag) (w:ak):ResultVar→ag→Prop
 | .tmp t,v=>ev N σ (.tmp t)=v
 | .cell a t,v=> ∃ ad,ev N σ (.tmp a)= .pointer (some ad)∧(loadVar t ad).run P w= .ok v w
theorem et {t:Tmp} :oM P N σ w (.tmp t) (ev N σ<|.tmp t):=rfl
theorem C5 {a t b off :Nat} {v:ag} (C:ev N σ (.tmp a)= .pointer (some ⟨b,off,none⟩)) (hu:fK P t=some none) (A:Hb.aV w.heap b off =some v):oM P N σ w (.cell a t) v:=⟨_,C,UJ hu A⟩
theorem dU {a t n b off :Nat} {cs:List ag} (E:ev N σ (.tmp a)= .pointer (some ⟨b,off,none⟩)) (hu:fK P t=some (some n)) (C:cs.length=n) (A:∀ j,j < n→Hb.aV w.heap b (off+j)=cs[j]?):oM P N σ w (.cell a t) (.agg cs.toArray):=⟨_,E,UK hu C A⟩
def pZ (tmps:Array ag):ResultVar→Sem ag
 | .tmp t=>pure<|tmps.getD t undef
 | .cell a t=>do loadVar t (← asAddr (tmps.getD a undef))
theorem oz {r:ResultVar} {v:ag} (h:oM P N σ w r v):(pZ (act N σ).tmps r).run P w= .ok v w:=by
 cases r with
 | tmp t=>
   show tx P (pure<|(act N σ).tmps.getD t undef) w=_;rw [pk]; simp only [oM] at h; rw [h]; rfl
 | cell a t=>
   obtain ⟨ad,h1,h2⟩:=h;show tx P (do loadVar t (← asAddr ((act N σ).tmps.getD a undef))) w=_;rw [pk,h1];simp [asAddr,h2]
theorem W5 {tmps:Array ag} {r:ResultVar} {v:ag} (h:fn.results= #[r]) (h1:(pZ tmps r).run P w= .ok v w):(results fn tmps).run P w= .ok v w:=by
 have A:(results fn tmps)=(do let vs ← #[r].mapM (pZ tmps); pure (if h:vs.size=1 then vs[0] else .tuple vs)):=by
  unfold results; rw [h]; rfl
 rw [A]; simp [xx,h1]
theorem y7 {tmps:Array ag} {r s:ResultVar} {v u:ag} (h:fn.results= #[r,s]) (h1:(pZ tmps r).run P w= .ok v w) (h2:(pZ tmps s).run P w= .ok u w):(results fn tmps).run P w= .ok (.tuple #[v,u]) w:=by
 have A:(results fn tmps)=(do let vs ← #[r,s].mapM (pZ tmps); pure (if h:vs.size=1 then vs[0] else .tuple vs)):=by
  unfold results; rw [h]; rfl
 rw [A]; simp [xx,h1,h2]
theorem W6 {tmps:Array ag} {r s q:ResultVar} {v u z:ag} (h:fn.results= #[r,s,q]) (h1:(pZ tmps r).run P w= .ok v w) (h2:(pZ tmps s).run P w= .ok u w) (h3:(pZ tmps q).run P w= .ok z w):(results fn tmps).run P w= .ok (.tuple #[v,u,z]) w:=by
 have A:(results fn tmps)=(do let vs ← #[r,s,q].mapM (pZ tmps); pure (if h:vs.size=1 then vs[0] else .tuple vs)):=by
  unfold results; rw [h]; rfl
 rw [A]; simp [xx,h1,h2,h3]
theorem vJ {r:ResultVar} {v:ag} (h:fn.results= #[r]) (h1:oM P N σ w r v) (A:R v w):fin P fn N R .ret σ w:=⟨v,W5 h (oz h1),A⟩
theorem eF {r s:ResultVar} {v u:ag} (h:fn.results= #[r,s]) (h1:oM P N σ w r v) (h2:oM P N σ w s u) (A:R (.tuple #[v,u]) w):fin P fn N R .ret σ w:=⟨_,y7 h (oz h1) (oz h2),A⟩
theorem GR {r s q:ResultVar} {v u z:ag} (h:fn.results= #[r,s,q]) (h1:oM P N σ w r v) (h2:oM P N σ w s u) (h3:oM P N σ w q z) (A:R (.tuple #[v,u,z]) w):fin P fn N R .ret σ w:=⟨_,W6 h (oz h1) (oz h2) (oz h3),A⟩
end
end Go.Hb
end
section
namespace Go.Hb
def p7 (P:bH) (N:Fm) (c:Code) (B:dG→Act→ak→Prop) (σ:Nat→ag) (w:ak):Prop :=c.wpIn (fe N.r) 0 P B (act N σ) w
def qb (N:Fm) (B:dG→Act→ak→Prop):dG→(Nat→ag)→ak→Prop :=fun e σ w=>B e (act N σ) w
section
variable {P:bH} {N:Fm} {B:dG→Act→ak→Prop} {σ:Nat→ag} {w:ak}
theorem jd {x y:Code} (h:p7 P N x (Exit.then (y.wpIn (fe N.r) 0 P B) B) σ w):p7 P N (.seq x y) B σ w:=wpIn_seq h
theorem jl {y:Code} (h:p7 P N y B σ w):qb N (Exit.then (y.wpIn (fe N.r) 0 P B) B) .normal σ w:=h
theorem prt {y:Act→ak→Prop} (h:qb N B .ret σ w):qb N (Exit.then y B) .ret σ w:=h
theorem C7 (h:qb N B .ret σ w):p7 P N .ret B σ w:=wpIn_ret h
theorem jO {c:Code} (h:dA P N c (qb N B) σ w):p7 P N c B σ w:=by
 unfold dA at h;refine wpIn_mono h ?_;intro e a w A;cases e with
 | panic c=>obtain ⟨σ,rfl,C⟩:=A; exact C σ fun _ _=>rfl
 | outgrown=>exact A.elim
 | _=>obtain ⟨σ,rfl,C⟩:=A; exact C
end
theorem ze (fn:lz) (args:List ag) (F:List Nat) (hn:oH args.length fn.ntmps=true):({tmps:=args.toArray++Array.replicate (fn.ntmps - args.toArray.size) undef,defers:= []} :Act)=act ⟨fn.ntmps,[],F,none⟩ (nH args):=by
 have A:args.length≤fn.ntmps:=by simpa using hn
 refine xH aa fun i=> ?_;rw [qy];simp only [nH,cH,ql];by_cases h1:i < args.length
 · rw [Array.getElem?_append_left (by simpa using h1),if_pos ab];simp [h1]
 · rw [Array.getElem?_append_right (by simpa using h1)];simp only [ql,Array.getElem?_replicate];by_cases h2:i < fn.ntmps
   · rw [if_pos ab,if_pos h2,tB ab]; rfl
   · rw [if_neg ab,if_neg h2]
abbrev Bm (P:bH) (fn:lz) (R:ag→ak→Prop):dG→Act→ak→Prop :=bodyPostM q6 0 P fn (fun e w'=> ∃ v,e= .returned v∧R v w')
theorem GI {P:bH} {f:iz} {N:Nat} {fn:lz} {c:Code} {args:List ag} {w:ak} {R:ag→ak→Prop} (F:List Nat) (E:P.funcs[f]? =some fn) (C:fn.body=some c)
 (A:fn.ntmps=N) (hn:oH args.length N=true) (h:p7 P ⟨N,[],F,none⟩ c (Bm P fn R) (nH args) w):ba P f args.toArray w R:=by
 subst A;refine callsIn_wide.1<|callsIn_of_wp_marks (F:=q6) (n:=0) E C trivial ?_;rw [ze fn args F hn];exact h
section
variable {P:bH} {n:Nat} {F:List Nat} {σ:Nat→ag} {w:ak} {fn:lz} {R:ag→ak→Prop}
theorem Un {e:dG} (he:e= .ret∨e= .normal) {v:ag} (C:(results fn (act ⟨n,[],F,none⟩ σ).tmps).run P w= .ok v w) (A:R v w):qb ⟨n,[],F,none⟩ (Bm P fn R) e σ w:=by
 rcases he with rfl | rfl <;> exact ⟨v,C,v,rfl,A⟩
theorem GP {t u:Nat} {v A:ag} (h:fn.results= #[.tmp t,.tmp u]) (E:ev ⟨n,[],F,none⟩ σ (.tmp t)=v) (hu:ev ⟨n,[],F,none⟩ σ (.tmp u)=A) (C:R (.tuple #[v,A]) w):qb ⟨n,[],F,none⟩ (Bm P fn R) .ret σ w:=
 Un (.inl rfl) (by rw [results_tmp2 h,pk,pk,E,hu]) C
theorem Uo {D:Nat} {v:ag} (A:w.heap[D]? =some (.deferred<|some [])) (E:∀ w',(results fn (act ⟨n,[{target:= .collected D,args:= #[]}],F,none⟩ σ).tmps).run P w'= .ok v w') (C:R v (w.putObj D<|.deferred none)):
 qb ⟨n,[{target:= .collected D,args:= #[]}],F,none⟩ (Bm P fn R) .ret σ w:=
 ⟨FrameMode.noConfusion,.inl ⟨_,_,rfl,run_takeDeferred A,⟨v,E _,v,rfl,C⟩⟩⟩
theorem GQ {D t u:Nat} {v A:ag} (h:fn.results= #[.tmp t,.tmp u]) (G:ev ⟨n,[{target:= .collected D,args:= #[]}],F,none⟩ σ (.tmp t)=v) (hu:ev ⟨n,[{target:= .collected D,args:= #[]}],F,none⟩ σ (.tmp u)=A)
 (C:w.heap[D]? =some (.deferred<|some [])) (E:R (.tuple #[v,A]) (w.putObj D<|.deferred none)):qb ⟨n,[{target:= .collected D,args:= #[]}],F,none⟩ (Bm P fn R) .ret σ w:=
 Uo C (fun w'=>by rw [results_tmp2 h,pk,pk,G,hu]) E
end
theorem dO {w:ak} {B t size n pp A:Nat} {v:ag} {xs:List ag} {cs:Array ag} {z:Nat×Nat} (h:w.ownsRow B t size v n xs) (hp:w.heap[pp]? =some (.cells cs A z)) (E:t≠A):v.ownBlock≠some pp:=by
 intro hk;rcases h.2 with ⟨h1,_⟩ | ⟨g,cap,cur,h1,_,C,_⟩
 · rw [h1] at hk; simp [jS] at hk
 · rw [h1] at hk;simp only [jS,gJ] at hk;subst hk;rw [C] at hp;simp only [gJ,Obj.cells.injEq] at hp;exact E hp.2.1
section
variable {P:bH} {N:Fm} {σ:Nat→ag} {w:ak} {dst:Option Nat} {ty:bB} {pos :String} {af:Array fO} {g:Option (Nat×Bool)} {x:ek} {K:(Nat→ag)→ak→Prop}
theorem vz {e:bB} {v:ag} (A:ev N σ x=v) (h1:v.oneCell'=true) (k:∀ b w',b=w.heap.size→Nw w w'→w'.heap[b]? =some (.cells [v].toArray e (0,0))→K (gy σ dst<|.pointer<|some ⟨b,0,none⟩) w'):
 dI P N ⟨dst,.box e x,ty,pos,af,g⟩ σ w K:=by
 refine oC (v:=fun b=> .pointer<|some ⟨b,0,none⟩) (ob:= .cells [v].toArray e (0,0)) ?_ k;have :=rV h1;simp [execOp,Instr.box,A,this,newVar,newRow]
end
theorem uk (w:ak) (k:Nat) (o:Obj):Md (fun j=>j=k) w (w.putObj k o):=
 ⟨rfl,rfl,by simp [World.putObj],fun j _ A=>zV A⟩
def kP (w w':ak):Prop := ∀ (k:Nat) (o:Obj),w.heap[k]? =some o→((∀ cur e z,o≠.cells cur e z)∧∀ es c,o≠.map es c)→w'.heap[k]? =some o
theorem kP.trans {a b c:ak} (h:kP a b) (A:kP b c):kP a c:=fun k o C hn=>A k o (h k o C hn) hn
theorem kP.md {F:Nat→Prop} {w w':ak} (hm:Md F w w') (C:∀ k,F k→∃ cur e z,w.heap[k]? =some (.cells cur e z)):kP w w':=fun k o A hn=>by
 rw [hm.dx k (dD.1 A).1 (fun hk=>by obtain ⟨c,e,z,h⟩:=C k hk; rw [A] at h; exact hn.1 _ _ _<|vj h)]; exact A
theorem kP.wk {w w':ak} (hm:Wk w w'):kP w w':=kP.md hm fun _ h=>h.elim
theorem wm {w:ak} {B e size n:Nat} {v:ag} {xs:List ag} (h:w.ownsRow B e size v n xs):∀ k,v.ownBlock=some k→∃ cur e z,w.heap[k]? =some (.cells cur e z):=by
 intro k hk;rcases h.2 with ⟨rfl,_⟩ | ⟨g,cap,C,rfl,_,A,_⟩
 · simp [jS] at hk
 · simp only [jS,gJ] at hk; subst hk; exact ⟨_,_,_,A⟩
def Nv {α:Type} (B:Nat) (A:List α→ak→Prop):Prop := ∀ pre W W' (F:Nat→Prop),A pre W→Md F W W'→(∀ k,F k→B≤k∧∀ cur e z,W.heap[k]?≠some (.cells cur e z))→A pre W'
section
variable {F:Nat→Prop} {W W':ak} {B:Nat}
theorem zp {b e:Nat} {cs:Array ag} {z:Nat×Nat} (h:W.heap[b]? =some (.cells cs e z)) (hm:Md F W W') (A:∀ k,F k→B≤k∧∀ cur e z,W.heap[k]?≠some (.cells cur e z)):W'.heap[b]? =some (.cells cs e z):=by
 rw [hm.dx b (dD.1 h).1 (fun hk=>(A b hk).2 _ _ _ h)]; exact h
theorem KN {B' e size n:Nat} {v:ag} {xs:List ag} (h:W.ownsRow B' e size v n xs) (hm:Md F W W') (A:∀ k,F k→B≤k∧∀ cur e z,W.heap[k]?≠some (.cells cur e z)):W'.ownsRow B' e size v n xs:=
 da h hm fun k hk C=>by obtain ⟨c,e,z,h1⟩:=wm h k hk; exact (A k C).2 _ _ _ h1
theorem KO {w:ak} (h:Wk w W) (hm:Md F W W') (E:w.heap.size≤B) (A:∀ k,F k→B≤k∧∀ cur e z,W.heap[k]?≠some (.cells cur e z)):Wk w W':=Md.trans' h hm fun k hk C=>by have :=(A k C).1; omega
end
def EH {α:Type} (P:bH) (J:Nat) (O:Array ag) (I:α→Array ag) (xs:List α) (G:ak→Prop):Prop :=
 ∀ (l:Nat) (A:List α→ak→Prop) (W:ak),A [] W→(∀ pre W,A pre W→G W)→(∀ pre C E,A pre C→Wk C E→A pre E)→
   (∀ pre x rest C,xs=pre++x::rest→A pre C→YieldAt q6 0 P l (I x) C fun e W'=>e= .returned (.bool true)∧A (pre++ [x]) W')→
   Calls P J (#[.func (.yield l) #[] #[]]++O) W fun e W'=>(∃ v,e= .returned v)∧A xs W'
def WU (R:ak→Prop):dG→(Nat→ag)→ak→Prop
 | .normal,_,w=>R w
 | _,_,_=>False
theorem NF (N:Fm):∀ (l:List (Tmp×ag)) (σ:Nat→ag),l.foldl (fun t p=>t.setIfInBounds p.1 p.2) (act N σ).tmps=(act N<|l.foldl (fun s p=>cU s p.1 p.2) σ).tmps:=by
 intro l
 induction l with
 | nil=>intro σ; rfl
 | cons p l A=>
   intro σ;rw [sy,sy,← A];congr 1;have :=congrArg Act.tmps<|k9 N σ (some p.1) p.2;exact this
theorem J4 {α:Type} {P:bH} {id n:Nat} {g:ek} {ps:Array Tmp} {ae body:Code} {Fx:List Nat} {σ:Nat→ag} {w:ak} {B:dG→Act→ak→Prop} {Z:Nat} {ac:Array ag}
 (O:α→Array ag) (xs:List α) (an:ak→Prop) (E:List α→ak→Prop) (aI:ev ⟨n,[],Fx,none⟩ σ g= .func (.func Z) #[] ac) (aF:gC P Z) (aP:∀ x,(O x).size=ps.size)
 (aK:EH P Z ac O xs an) (az:E [] w) (aG:∀ pre W,E pre W→an W) (ah:Nv w.heap.size E) (aw:α→Nat→ag)
 (aD:∀ (l:Nat) (x:α) (W:ak) (K:(Nat→ag)→ak→Prop),K (aw x) W→dA P ⟨n,[],[],some l⟩ ae (mj K fun _ _ _=>False) ((ps.toList.zip (O x).toList).foldl (fun s p=>cU s p.1 p.2) σ) W)
 (aE:∀ (l:Nat) (pre:List α) (x:α) (rest:List α) (W:ak),xs=pre++x::rest→E pre W→dA P ⟨n,[],[],some l⟩ body (WU fun W'=>kP W W'∧E (pre++ [x]) W') (aw x) W)
 (hd:∀ (D:Nat) (W:ak),w.heap.size≤D→E xs W→W.heap[D]? =some (.deferred<|some [])→qb ⟨n,[{target:= .collected D,args:= #[]}],Fx,none⟩ B .normal σ W):
 p7 P ⟨n,[],Fx,none⟩ (.block id<|.rangeFunc g ps ae body) B σ w:=by
 refine wpIn_block<|wpIn_rangeFunc ?_;intro fn _;obtain ⟨rc,Y⟩:∃ rc:LoopState→Option Code→Loop,rc=fun st aS=> {state:=st,pending:=aS,fn,tmps:=(act ⟨n,[],Fx,none⟩ σ).tmps,params:=ps,assign:=ae,body,defers:=w.heap.size} :=⟨_,rfl⟩
 obtain ⟨G,ai⟩:∃ G,(w.alloc<|.deferred<|some []).alloc (.loop<|rc .ready none)=G:=⟨_,rfl⟩
 have aC:G.heap[w.heap.size+1]? =some (.loop<|rc .ready none):=by
  rw [← ai]; have :=Mr (w.alloc<|.deferred<|some []) (.loop<|rc .ready none); rwa [World.size_alloc] at this
 have aB:G.heap[w.heap.size]? =some (.deferred<|some []):=by
  rw [← ai]; exact (Below.heap_alloc _ _ _<|by simp).trans<|Mr w _
 have hn:∀ (W:ak) (o:Obj),Wk W (W.alloc o):=fun W o=>(Jq W o).md;have aA:E [] G:=by rw [← ai]; exact ah _ _ _ _ (ah _ _ _ _ az (hn _ _) fun _ h=>h.elim) (hn _ _) fun _ h=>h.elim
 have aH:(act ⟨n,[],Fx,none⟩ σ).eval g= .func (.func Z) #[] ac:=by rw [jv]; exact aI
 refine ⟨w.heap.size+1,[{target:= .collected w.heap.size,args:= #[]}],G,{target:= .fn (.func Z) ac,args:= #[.func (.yield<|w.heap.size+1) #[] #[]]},G,Z,
  #[.func (.yield<|w.heap.size+1) #[] #[]]++ac,G,?_,?_,fun _ _=>trivial,?_,fun ay=>(by cases ay),?_⟩
 · rw [← ai,Y]; exact run_enterLoop_outer _ _ _ _ _
 · simp only [resolve,aH];simp [go_sem]
 · have :=aF (#[.func (.yield<|w.heap.size+1) #[] #[]]++ac) G;simp [invoke,go_sem,this]
 · have al:∀ (pre:List α) (W:ak) (o am:Obj),E pre W→W.heap[w.heap.size+1]? =some o→(∀ cur e z,o≠.cells cur e z)→E pre (W.putObj (w.heap.size+1) am):=fun pre W o am h1 h2 h3=>
    ah _ _ _ _ h1 (uk W _ am) fun k hk=>⟨ab,fun cur e z h4=>by subst hk; rw [h2] at h4; exact h3 _ _ _<|vj h4⟩
   refine callsIn_wide.2 (mm (aK (w.heap.size+1)
    (fun pre W=>E pre W∧W.heap[w.heap.size+1]? =some (.loop<|rc .ready none)∧W.heap[w.heap.size]? =some (.deferred<|some []))
    G ⟨aA,aC,aB⟩ (fun pre W h=>aG pre W h.1)
    (fun pre A C h hm=>⟨ah _ _ _ _ h.1 hm (fun _ h=>h.elim),(hm.dx _ (dD.1 h.2.1).1 fun h=>h).trans h.2.1,(hm.dx _ (dD.1 h.2.2).1 fun h=>h).trans h.2.2⟩) ?_) ?_)
   · rintro pre x rest W aR ⟨hi,V,hk⟩;have aO:w.heap.size+1 < W.heap.size:=(dD.1 V).1;have au:=run_yield (P:=P) (args:=O x) V<|by rw [Y]; exact aP x
     rw [Y] at au;refine ⟨fn,_,ae,body,au,roundIn_of_wpIn (F:=q6) trivial ?_⟩;have aQ:((ps.zip<|O x).foldl (fun tmps (p:Tmp×ag)=>tmps.setIfInBounds p.1 p.2) (act ⟨n,[],Fx,none⟩ σ).tmps)=(act ⟨n,[],[],some<|w.heap.size+1⟩<|(ps.toList.zip (O x).toList).foldl (fun s p=>cU s p.1 p.2) σ).tmps:=by
      rw [← LM,Array.toList_zip];exact NF ⟨n,[],[],some<|w.heap.size+1⟩ _ σ
     have h1:=aD (w.heap.size+1) x W (fun σ' W'=> ∃ av,(Instr.beginRound<|w.heap.size+1).run P W'= .ok () av∧
      body.wpIn (q6.inRound<|w.heap.size+1) 0 P (roundPost P (w.heap.size+1) fun e W'=>e= .returned (.bool true)∧E (pre++ [x]) W'∧W'.heap[w.heap.size+1]? =some (.loop<|rc .ready none)∧W'.heap[w.heap.size]? =some (.deferred<|some [])) (act ⟨n,[],[],some<|w.heap.size+1⟩ σ') av) ?_
     · unfold dA at h1;have ax:({tmps:=(ps.zip<|O x).foldl (fun tmps (p:Tmp×ag)=>tmps.setIfInBounds p.1 p.2) (act ⟨n,[],Fx,none⟩ σ).tmps,defers:= []} :Act)=act ⟨n,[],[],some<|w.heap.size+1⟩ ((ps.toList.zip (O x).toList).foldl (fun s p=>cU s p.1 p.2) σ):=by rw [aQ]; rfl
       rw [ax];refine wpIn_mono h1 ?_;intro e a w' I;cases e with
       | normal=>obtain ⟨σ',rfl,J⟩:=I; exact J
       | panic c=>obtain ⟨σ',rfl,J⟩:=I; exact J σ' fun _ _=>rfl
       | outgrown=>exact I.elim
       | _=>obtain ⟨σ',rfl,J⟩:=I; exact J
     refine ⟨_,run_beginRound V (by rw [Y]),?_⟩;have aN:(W.putObj (w.heap.size+1)<|.loop {rc .ready none with state:= .busy}).heap[w.heap.size+1]? =some (.loop {rc .ready none with state:= .busy}):=Mu aO;have aL:(W.putObj (w.heap.size+1)<|.loop {rc .ready none with state:= .busy}).heap[w.heap.size]? =some (.deferred<|some []):=(zV ab).trans hk;have h2:=aE (w.heap.size+1) pre x rest _ aR<|al _ _ _ (.loop {rc .ready none with state:= .busy}) hi V fun _ _ _ h=>by cases h
     unfold dA at h2;refine wpIn_mono h2 ?_;intro e a aU I;cases e with
     | normal=>
       obtain ⟨σ',rfl,ao,aJ⟩:=I;have aj:=ao _ _ aN ⟨(fun _ _ _ h=>by cases h),fun _ _ h=>by cases h⟩;have aM:=ao _ _ aL ⟨(fun _ _ _ h=>by cases h),fun _ _ h=>by cases h⟩;have ap:=run_endRound (P:=P) none aj;rw [Y] at ap aj ⊢;exact ⟨_,_,ap,aa,al _ _ _ _ aJ aj (fun _ _ _ h=>by cases h),Mu (dD.1 aj).1,(zV ab).trans aM⟩
     | panic c=>obtain ⟨σ',rfl,J⟩:=I; exact (J σ' fun _ _=>rfl).elim
     | outgrown=>exact I.elim
     | _=>obtain ⟨σ',rfl,J⟩:=I; exact J.elim
   · rintro e aT ⟨⟨v,rfl⟩,hi,V,hk⟩;have aq:=run_endLoop (P:=P) V<|by rw [Y]; simp
     rw [Y] at aq;refine ⟨none,_,aq,?_⟩;rw [Y] at V;exact hd w.heap.size _ (cE _) (al _ _ _ _ hi V fun _ _ _ h=>by cases h)<|(zV ab).trans hk
section
variable {P:bH} {N:Fm} {ops:Array cg} {Q:dG→(Nat→ag)→ak→Prop} {rest:List cg} {σ:Nat→ag} {w:ak} {d':Option Nat} {d:Nat} {op:Op} {ty:bB} {pos :String} {af:Array fO} {v:ag}
def p8 (P:bH) (N:Fm) (ops:Array cg) (Q:dG→(Nat→ag)→ak→Prop) (l:List cg) (σ:Nat→ag) (w:ak):Prop :=wpListIn (fe N.r) 0 P ops (lift N Q) l (act N σ) w
theorem WR {id:Nat} {l:List cg} (h:p8 P N l.toArray Q l σ w):dA P N (.region id l.toArray false) Q σ w:=by
 unfold dA; exact wpIn_region_lit h
theorem Vp (h:Q .normal σ w):p8 P N ops Q [] σ w:=⟨σ,rfl,h⟩
def Cv (o:Op):Bool:=match o with | .defer _=>false | _=>true
theorem Vs {o:Op} (h:Cv o=true):∀ c,o≠.defer c:=fun c e=>by subst e; cases h
theorem ey (hn:Cv op=true) (h:dI P N ⟨d',op,ty,pos,af,none⟩ σ w (fun σ w=>p8 P N ops Q rest σ w)):p8 P N ops Q (⟨d',op,ty,pos,af,none⟩::rest) σ w:=by
 unfold p8 wpListIn;rw [if_pos (kM _ rfl _)];refine ⟨fun f _=>ye _ f,?_⟩;rw [Bl,Mh _ _ _ (Vs hn)];unfold dI kr at h;generalize (execOp (act N σ).eval ⟨d',op,ty,pos,af,none⟩).run P w=x at h ⊢;cases x with
 | ok n w'=>
   cases n <;> simp only [mo,zT] at h ⊢ <;>
    first
     | (obtain ⟨σ',C,hk⟩:=h; rw [C]; exact hk)
     | (refine ⟨fun A=>(by rw [vK] at A; cases A),CallsIn.mono (GZ h) fun e w'' he=> ?_⟩
        cases e with
        | returned v=>obtain ⟨σ',C,hk⟩:=he; simp only; rw [C]; exact hk
        | panicked c=>exact he.elim
        | outgrown=>obtain ⟨_,_,E⟩:=he; exact E.elim)
     | (refine ⟨fun A=>(by rw [vK] at A; cases A),RowsIn.mono (G0 h) fun v w'' he=> ?_⟩
        obtain ⟨σ',C,hk⟩:=he; rw [C]; exact hk)
 | halt x w'=>cases x <;> simp only [mo] at h
theorem py (hn:Cv op=true) (h:(execOp (ev N σ) ⟨some d,op,ty,pos,af,none⟩).run P w= .ok (.value v) w) (k:p8 P N ops Q rest (cU σ d v) w):p8 P N ops Q (⟨some d,op,ty,pos,af,none⟩::rest) σ w:=
 ey hn (mW h k)
theorem ZA {l:Nat} {fo:ek} {args:Array ek} {A:Array bB} {L:List ag} {R:ak→Prop} (J:ev N σ fo= .func (.yield l) #[] #[]) (G:args.toList.map (ev N σ)=L)
 (V:YieldAt q6 0 P l L.toArray w fun e W'=>e= .returned (.bool true)∧R W') (k:∀ W',R W'→p8 P N ops Q rest (cU σ d<|.bool true) W'):
 p8 P N ops Q (⟨some d,.call ⟨.value fo,args,A⟩,ty,pos,af,none⟩::rest) σ w:=by
 obtain ⟨fn,tmps,a,b,I,E⟩:=V;unfold p8 wpListIn;rw [if_pos (kM _ rfl _)];refine ⟨fun f _=>ye _ f,?_⟩;rw [Bl,Mh _ _ _ (fun c e=>by cases e),jv];have hm:args.map (ev N σ)=L.toArray:=by rw [← G,← nK]
 have O:(execOp (ev N σ) ⟨some d,.call ⟨.value fo,args,A⟩,ty,pos,af,none⟩).run P w= .ok (.round l fn tmps a b) w:=by
  simp [execOp,resolve,J,sh,invoke,hm,I]
 rw [O];simp only [zT];refine ⟨fun C=>(by rw [vK] at C; cases C),?_⟩;have h1:RoundIn (fe N.r) (0 - 1) P l fn tmps a b w fun e W'=>e= .returned (.bool true)∧R W':=by
  cases hr:N.r with
  | none=>exact E
  | some k=>exact E
 refine RoundIn.mono h1 ?_;rintro e W' ⟨rfl,hw⟩;simp only;rw [k9];exact k W' hw
end
end Go.Hb
end
section
namespace Go.Hb
def fR (P:bH) (f:iz) (args:Array ag) (w:ak) (R:ag→ak→Prop) (Pn:List PanicEntry→ak→Prop):Prop :=
 Calls P f args w fun e w'=>(∃ v,e= .returned v∧R v w')∨∃ c,e= .panicked c∧Pn c w'
def G5 (P:bH) (fn:lz) (N:Fm) (R:ag→ak→Prop) (Pn:List PanicEntry→ak→Prop):dG→(Nat→ag)→ak→Prop
 | .normal,σ,w=> ∃ v,(results fn (act N σ).tmps).run P w= .ok v w∧R v w
 | .ret,σ,w=> ∃ v,(results fn (act N σ).tmps).run P w= .ok v w∧R v w
 | .panic c,_,w=>Pn c w
 | _,_,_=>False
theorem kf {P:bH} {fn:lz} {N:Fm} {R:ag→ak→Prop} {Pn:List PanicEntry→ak→Prop} {e:dG} {σ:Nat→ag} {w:ak} (h:fin P fn N R e σ w):G5 P fn N R Pn e σ w:=by
 cases e <;> first | exact h | exact h.elim
theorem kE {P:bH} {f:iz} {N:Nat} {fn:lz} {c:Code} {args:List ag} {w:ak} {R:ag→ak→Prop} {Pn:List PanicEntry→ak→Prop} (O:P.funcs[f]? =some fn) (J:fn.body=some c)
 (I:fn.ntmps=N) (hn:oH args.length N=true) (h:dA P ⟨N,[],[],none⟩ c (G5 P fn ⟨N,[],[],none⟩ R Pn) (nH args) w):fR P f args.toArray w R Pn:=by
 subst I;refine calls_of_wp O J ?_;rw [ze fn args [] hn];unfold dA at h;refine LX ?_<|wpIn_wide.1 h;intro e a w A;cases e with
 | normal=>obtain ⟨σ,rfl,v,G,E⟩:=A; exact ⟨rfl,v,G,.inl ⟨v,rfl,E⟩⟩
 | ret=>obtain ⟨σ,rfl,v,G,E⟩:=A; exact ⟨rfl,v,G,.inl ⟨v,rfl,E⟩⟩
 | exit id=>obtain ⟨σ,rfl,C⟩:=A; exact C.elim
 | goto l=>obtain ⟨σ,rfl,C⟩:=A; exact C.elim
 | panic c=>obtain ⟨σ,rfl,C⟩:=A; exact ⟨rfl,.inr ⟨c,rfl,C σ fun _ _=>rfl⟩⟩
 | outgrown=>exact A.elim
section
variable {P:bH} {N:Fm} {Q:dG→(Nat→ag)→ak→Prop} {σ:Nat→ag} {w:ak} {ops:Array cg} {rest:List cg} {dst:Option Nat} {ty:bB} {pos :String} {af:Array fO} {g:Option (Nat×Bool)} {x:ek}
def p9 (P:bH) (N:Fm) (o:cg) (σ:Nat→ag) (w:ak) (K:(Nat→ag)→ak→Prop) (Pn:List PanicEntry→ak→Prop):Prop :=
 kr P o (act N σ) w (fun a w=> ∃ σ,a=act N σ∧K σ w) (fun e a w=>match e with | .panic c=>a=act N σ∧Pn c w | _=>False)
theorem zH {o:cg} {K:(Nat→ag)→ak→Prop} {Pn:List PanicEntry→ak→Prop} {A:Act→ak→Prop} (h:p9 P N o σ w K Pn) (hk:∀ σ w,K σ w→A (act N σ) w) (hp:∀ c w',Pn c w'→∀ σ',(∀ i∈N.F,σ' i=σ i)→Q (.panic c) σ' w'):o.wp P (act N σ) w A (lift N Q):=by
 unfold p9 at h;unfold kr at*;generalize (execOp (act N σ).eval o).run P w=r at h ⊢;have C:∀ a w,(∃ σ,a=act N σ∧K σ w)→A a w:=by rintro a w ⟨σ,rfl,h⟩; exact hk _ _ h
 have E:∀ c (a:Act) w',(a=act N σ∧Pn c w')→lift N Q (.panic c) a w':=by rintro c a w' ⟨rfl,h⟩; exact ⟨σ,rfl,hp c w' h⟩
 cases r with
 | ok n w'=>
   cases n <;> simp only [mo] at h ⊢ <;>
    first
     | exact C _ _ h
     | exact mm h (fun e w'' he=>by
      cases e with
      | returned v=>exact C _ _ he
      | panicked c=>exact E _ _ _ ⟨rfl,he.2⟩
      | outgrown=>obtain ⟨_,_,G⟩:=he; exact G.elim)
     | exact Eg h fun _ _ he=>C _ _ he
 | halt x w'=>cases x <;> simp only [mo] at h ⊢ <;> exact E _ _ _ ⟨rfl,h.2⟩
theorem dW {f:iz} {args:Array ek} {A:Array bB} {L:List ag} {R:ag→ak→Prop} {Pn:List PanicEntry→ak→Prop} {K:(Nat→ag)→ak→Prop} (I:gC P f) (J:fR P f L.toArray w R Pn) (C:args.toList.map (ev N σ)=L)
 (k:∀ v w',R v w'→K (gy σ dst v) w'):p9 P N ⟨dst,.call ⟨.value (.func f),args,A⟩,ty,pos,af,g⟩ σ w K Pn:=by
 unfold p9 kr;have hm:args.map (ev N σ)=L.toArray:=by rw [← C,← nK]
 have O:(execOp (ev N σ) ⟨dst,.call ⟨.value (.func f),args,A⟩,ty,pos,af,g⟩).run P w= .ok (.enter f L.toArray) w:=by
  have h2:=I L.toArray w;simp [execOp,resolve,ev,sh,invoke,hm,h2]
 rw [jv,O];simp only [mo];refine mm J ?_;rintro e w' (⟨v,rfl,G⟩ | ⟨c,rfl,E⟩)
 · exact ⟨_,k9 ..,k v w' G⟩
 · exact ⟨trivial,E⟩
theorem LC {f:iz} {fo:ek} {first cap:Array ag} {args:Array ek} {A:Array bB} {L:List ag} {R:ag→ak→Prop} {Pn:List PanicEntry→ak→Prop} {K:(Nat→ag)→ak→Prop} (I:gC P f) (O:ev N σ fo= .func (.func f) first cap) (J:fR P f L.toArray w R Pn) (C:first.toList++args.toList.map (ev N σ)++cap.toList=L)
 (k:∀ v w',R v w'→K (gy σ dst v) w'):p9 P N ⟨dst,.call ⟨.value fo,args,A⟩,ty,pos,af,g⟩ σ w K Pn:=by
 unfold p9 kr;have hm:first++args.map (ev N σ)++cap=L.toArray:=by rw [← C]; simp
 have V:(execOp (ev N σ) ⟨dst,.call ⟨.value fo,args,A⟩,ty,pos,af,g⟩).run P w= .ok (.enter f L.toArray) w:=by
  have h2:=I L.toArray w;simp only [execOp,resolve,O,sh,invoke];simp [hm,h2]
 rw [jv,V];simp only [mo];refine mm J ?_;rintro e w' (⟨v,rfl,G⟩ | ⟨c,rfl,E⟩)
 · exact ⟨_,k9 ..,k v w' G⟩
 · exact ⟨trivial,E⟩
theorem eP {o:cg} {Pn:List PanicEntry→ak→Prop} (A:o.guard=none) (h:p9 P N o σ w (fun σ w=>ej P N ops Q rest σ w) Pn) (hp:∀ c w',Pn c w'→∀ σ',(∀ i∈N.F,σ' i=σ i)→Q (.panic c) σ' w'):ej P N ops Q (o::rest) σ w:=by
 unfold ej wpList;rw [if_pos (kM o A _)];refine .inl<|zH h (fun σ w hk=> ?_) hp;unfold ej at hk; exact hk
theorem Wg {t:bB} {v:ag} (C:ev N σ x= .iface t v) (hp:∀ σ',(∀ i∈N.F,σ' i=σ i)→Q (.panic [{v:= .iface t v,recovered:=false}]) σ' w):ej P N ops Q (⟨dst,.panic x,ty,pos,af,none⟩::rest) σ w:=by
 unfold ej wpList;rw [if_pos (kM _ rfl _)];refine .inl ?_;unfold kr;have A:(execOp (ev N σ) ⟨dst,.panic x,ty,pos,af,none⟩).run P w= .halt (.panic<|.iface t v) w:=by
  simp [execOp,C,Instr.panic]
 rw [jv,A];exact ⟨σ,aa,hp⟩
theorem U7 {t:bB} {d:TypeDesc} {v:ag} (hu:P.underlying t=some d) (hd:(match d with | .interface _=>false | _=>true)=true) (A:ev N σ x=v):(execOp (ev N σ) ⟨dst,.makeInterface t x,ty,pos,af,g⟩).run P w= .ok (.value<|.iface t v) w:=by
 cases d <;> first | (cases hd; done) | simp [execOp,Instr.makeInterface,A,dV hu]
def sX (P:bH) (t:bB):Bool:=match P.underlying t with | some (.interface _)=>false | some _=>true | none=>false
theorem U9 {t:bB} {v:ag} (h:sX P t=true) (A:ev N σ x=v):(execOp (ev N σ) ⟨dst,.makeInterface t x,ty,pos,af,g⟩).run P w= .ok (.value<|.iface t v) w:=by
 unfold sX at h;cases hd:P.underlying t with
 | none=>rw [hd] at h; cases h
 | some d=>rw [hd] at h; exact U7 hd (by cases d <;> first | rfl | cases h) A
theorem Yk {xt a:bB} {zv:ag} (hu:sX P a=true) (C:zeroV P a=some zv) (A:ev N σ x= .nilIface):(execOp (ev N σ) ⟨dst,.typeAssert x xt a true,ty,pos,af,g⟩).run P w= .ok (.value<|.tuple #[zv,.bool false]) w:=by
 unfold sX at hu;cases hd:P.underlying a with
 | none=>rw [hd] at hu; cases hu
 | some d=>rw [hd] at hu; cases d <;> first | (cases hu; done) | simp [execOp,Me,A,dV hd,xg C]
theorem Yj {xt a:bB} {v:ag} (hu:sX P a=true) (A:ev N σ x= .iface a v):(execOp (ev N σ) ⟨dst,.typeAssert x xt a true,ty,pos,af,g⟩).run P w= .ok (.value<|.tuple #[v,.bool true]) w:=by
 unfold sX at hu;cases hd:P.underlying a with
 | none=>rw [hd] at hu; cases hu
 | some d=>rw [hd] at hu; cases d <;> first | (cases hu; done) | simp [execOp,Me,A,dV hd]
variable {S:ak→Prop} {fuel:Nat} {aW:Array Bool}
theorem ug {o:cg} {Pn:List PanicEntry→ak→Prop} (i:Nat) (hi:ops[i]? =some o) (C:ou ops aW i=true) (A:o.guard=none)
 (h:p9 P N o σ w (fun σ w=>S w∧eK P N ops Q S fuel (aW.setIfInBounds i true) σ w) Pn) (hp:∀ c w',Pn c w'→∀ σ',(∀ i∈N.F,σ' i=σ i)→Q (.panic c) σ' w'):eK P N ops Q S (fuel+1) aW σ w:=by
 unfold eK at*;refine wpAnyH_all (rs:= [i]) (by simpa [ou] using C) (by simp) ?_;intro k hk;obtain rfl :k=i:=by simpa using hk
 unfold wpOp;simp only [hi];rw [if_pos (kM _ A _)];exact .inl<|zH h (fun σ w hk=>hk) hp
end
section
variable {P:bH} {N:Fm} {Q:dG→(Nat→ag)→ak→Prop} {σ:Nat→ag} {w:ak} {ops:Array cg} {S:ak→Prop} {fuel:Nat} {aW:Array Bool}
theorem Tf {o A:cg} {Pn:List PanicEntry→ak→Prop} (i j:Nat) (hi:ops[i]? =some o) (G:ops[j]? =some A) (I:((k5 .any ops aW)== [i,j])=true) (C:o.guard=none) (E:A.guard=none)
 (h:p9 P N o σ w (fun σ w=>S w∧eK P N ops Q S fuel (aW.setIfInBounds i true) σ w) Pn) (hp:∀ c w',Pn c w'→∀ σ',(∀ i∈N.F,σ' i=σ i)→Q (.panic c) σ' w')
 (h1:dI P N A σ w (fun σ w=>S w∧eK P N ops Q S fuel (aW.setIfInBounds j true) σ w)):eK P N ops Q S (fuel+1) aW σ w:=by
 unfold eK at*;refine wpAnyH_all (rs:= [i,j]) (by simpa using I) (by simp) ?_;intro k hk;simp only [fi,xz,or_false] at hk;rcases hk with rfl | rfl
 · unfold wpOp;simp only [hi];rw [if_pos (kM _ C _)];exact .inl<|zH h (fun _ _ hk=>hk) hp
 · unfold wpOp;simp only [G];rw [if_pos (kM _ E _)];exact .inl<|uK h1 fun _ _ hk=>hk
end
section
variable {P:bH} {N:Fm} {Q:dG→(Nat→ag)→ak→Prop} {σ:Nat→ag} {w:ak} {ops:Array cg} {S:ak→Prop} {fuel r:Nat} {aW:Array Bool}
theorem II {o:cg} {Pn:List PanicEntry→ak→Prop} (i:Nat) (hi:ops[i]? =some o) (G:ou ops aW i=true) (E:o.guard=none)
 (h:p9 P N o σ w (fun σ w=>S w∧eT P N ops Q S r fuel (aW.setIfInBounds i true) σ w) Pn) (hp:∀ c w',Pn c w'→∀ σ',(∀ i∈N.F,σ' i=σ i)→Q (.panic c) σ' w'):eT P N ops Q S r (fuel+1) aW σ w:=by
 unfold eT at*;have A:k5 .any ops aW= [i]:=by simpa [ou] using G
 refine ⟨fun C=>absurd (A ▸ C) (by simp),fun k hk=> ?_⟩;rw [A] at hk;obtain rfl :k=i:=by simpa using hk
 unfold wpOp;simp only [hi];rw [if_pos (kM _ E _)];exact .inl<|zH h (fun σ w hk=>⟨fun _=>hk.1,hk.2⟩) hp
end
abbrev rk (P:bH) (fn:lz) (R:ag→ak→Prop):dG→Act→ak→Prop :=bodyPostD P fn (fun e w'=> ∃ v,e= .returned v∧R v w')
theorem Rg {P:bH} {f:iz} {N:Nat} {fn:lz} {c:Code} {args:List ag} {w:ak} {R:ag→ak→Prop} (F:List Nat) (E:P.funcs[f]? =some fn) (C:fn.body=some c)
 (A:fn.ntmps=N) (hn:oH args.length N=true) (h:p7 P ⟨N,[],F,none⟩ c (rk P fn R) (nH args) w):ba P f args.toArray w R:=by
 subst A;refine calls_of_wp_defers E C ?_;rw [ze fn args F hn];exact wpIn_wide.1 h
section
variable {P:bH} {n:Nat} {D:List Deferred} {F:List Nat} {σ:Nat→ag} {w:ak} {fn:lz} {R:ag→ak→Prop} {B:dG→Act→ak→Prop}
theorem RD {v:ag} (C:(results fn (act ⟨n,[],F,none⟩ σ).tmps).run P w= .ok v w) (A:R v w):qb ⟨n,[],F,none⟩ (rk P fn R) .ret σ w:=⟨v,C,v,rfl,A⟩
theorem Ut:¬LetsOut (rk P fn R):=fun ⟨_,_,h⟩=>by obtain ⟨v,h,_⟩:=h; cases h
theorem QR {id d:Nat} {f:iz} (V:¬LetsOut B) {cs:Array ek} {J O:bB} {G I:String} {C E:Array fO} {y:Code} (A:Array ag) (Z:cs.toList.map (ev ⟨n,[],F,none⟩ σ)=A.toList) (hd:d < n)
 (h:p7 P ⟨n,[{target:= .fn (.func f) A,args:= #[]}],F,none⟩ y B (cU σ d<|.func (.func f) #[] A) w):
 p7 P ⟨n,[],F,none⟩ (.region id #[⟨some d,.makeFunc (.func f) #[] cs,J,G,C,none⟩,⟨none,.defer ⟨.value (.tmp d),#[],#[]⟩,O,I,E,none⟩] false) (Exit.then (y.wpIn (fe none) 0 P B) B) σ w:=by
 have ab:cs.map (ev ⟨n,[],F,none⟩ σ)=A:=zO.1<|by rw [nK]; exact Z
 refine wpIn_region ?_;have Y:¬LetsOut (Exit.then (y.wpIn (fe none) 0 P B) B):=fun ⟨a,w,h⟩=>V ⟨a,w,h⟩;refine BZ (r:=none) Y aa _ _ _ ?_;show wpOps P _ _ [0,1] _ _;simp only [wpOps,MS,Aa,List.getElem?_cons_succ];rw [if_pos (kM _ rfl _)];refine .inl ?_;unfold kr;have h1:(execOp (act ⟨n,[],F,none⟩ σ).eval ⟨some d,.makeFunc (.func f) #[] cs,J,G,C,none⟩).run P w= .ok (.value<|.func (.func f) #[] A) w:=by
  rw [jv,mf,ab]; simp
 rw [h1];simp only [mo];rw [if_pos (kM _ rfl _),k9];refine .inl ?_;have h2:(execOp (act ⟨n,[],F,none⟩<|gy σ (some d)<|.func (.func f) #[] A).eval ⟨none,.defer ⟨.value (.tmp d),#[],#[]⟩,O,I,E,none⟩).run P w= .ok (.defer {target:= .fn (.func f) A,args:= #[]}) w:=by
  have ac:ev ⟨n,[],F,none⟩ (cU σ d<|.func (.func f) #[] A) (.tmp d)= .func (.func f) #[] A:=by
   show cond (gu d n) (cU σ d _ d) undef=_;rw [show gu d n=true from by simpa using hd];show cU σ d _ d=_;unfold cU; simp
  rw [jv];show (execOp (ev ⟨n,[],F,none⟩<|cU σ d<|.func (.func f) #[] A) _).run P w=_;simp [execOp,resolve,ac,sh]
 rw [h2];exact h
end
theorem VJ {P:bH} {ops:Array cg} {Q:dG→Act→List Frame→ak→Prop} {cs:List Frame} (C:¬LetsOut fun e a w=>Q e a cs w):∀ (l:List Nat) (a:Act) (w:ak),wpOps P ops (fun e a w=>Q e a cs w) l a w→wpOpsS P ops Q l a cs w:=by
 intro l
 induction l with
 | nil=>exact fun _ _ h=>h
 | cons i l A=>
   intro a w h;simp only [wpOps] at h;simp only [wpOpsS];cases ho:ops[i]? with
   | none=>simp only [ho] at h ⊢; exact A a w h
   | some o=>
     simp only [ho] at h ⊢;by_cases hw:Region.wanted o (yielded ops a.tmps)=true
     · rw [if_pos hw] at h ⊢;rcases h with h | h
       · unfold kr at h;generalize (execOp a.eval o).run P w=x at h;cases x with
         | ok n w'=>
           cases n <;> simp only [mo] at h ⊢ <;>
            first
             | exact A _ _ h
             | exact mm h fun e w'' he=>by cases e <;> first | exact A _ _ he | exact he
             | exact Eg h fun v w'' he=>A _ _ he
         | halt x w'=>cases x <;> simp only [mo] at h ⊢ <;> exact h
       · exact absurd h.2 C
     · rw [if_neg hw] at h ⊢;exact A _ _ h
theorem Uw {P:bH} {ops:Array cg} {Q E:dG→Act→ak→Prop} (C:∀ e a w,Q e a w→E e a w) (G:¬LetsOut Q):∀ (l:List cg) (a:Act) (w:ak),wpList P ops Q l a w→wpList P ops E l a w:=by
 intro l
 induction l with
 | nil=>exact fun _ _ h=>C _ _ _ h
 | cons o l A=>
   intro a w h;unfold wpList at h ⊢;split at h
   · rename_i hw;rw [if_pos hw];rcases h with h | h
     · left;unfold kr at h ⊢;generalize (execOp a.eval o).run P w=x at h;cases x with
       | ok n w'=>
         cases n <;> simp only [mo] at h ⊢ <;>
          first
           | exact A _ _ h
           | exact mm h (fun e w'' he=>by
            cases e with
            | returned v=>exact A _ _ he
            | panicked c=>exact C _ _ _ he
            | outgrown=>exact absurd he G)
           | exact Eg h fun v w'' he=>A _ _ he
       | halt x w'=>cases x <;> simp only [mo] at h ⊢ <;> exact C _ _ _ h
     · exact absurd h.2 G
   · rename_i hw;rw [if_neg hw]; exact A _ _ h
theorem Fz {P:bH} {f:iz} {fn:lz} {id N d:Nat} {ty:bB} {pos :String} {af:Array fO} {rest:List cg} {y:Code} {args:List ag} {w:ak} {u G:FrameMode} {v:ag} {R:ak→Prop}
 (ai:P.funcs[f]? =some fn) (ae:fn.body=some (.seq (.region id (⟨some d,.call ⟨.builtin .recover,#[],#[]⟩,ty,pos,af,none⟩::rest).toArray false) y)) (ac:fn.ntmps=N) (hn:oH args.length N=true)
 (aj:∀ (C:Frame) (cs:List Frame),C.mode=u→(recoverD (C::cs)=some (v,{C with mode:=G} ::cs))∨(recoverD (C::cs)=none∧v= .nilIface∧G=u))
 (h:ej P ⟨N,[],[],none⟩ (⟨some d,.call ⟨.builtin .recover,#[],#[]⟩,ty,pos,af,none⟩::rest).toArray (mj (fun σ w=>dA P ⟨N,[],[],none⟩ y (fin P fn ⟨N,[],[],none⟩ fun _ w=>R w) σ w)<|fin P fn ⟨N,[],[],none⟩ fun _ w=>R w) rest (cU (nH args) d v) w):
 CallsD P f args.toArray u w fun e I w'=> ∃ v,e= .returned v∧I=G∧R w':=by
 subst ac;refine callsD_of_wpS ai ae ?_;intro C cs hu;rw [ze fn args [] hn];refine wpS_seq<|wpS_region ?_;have al:gT (⟨some d,.call ⟨.builtin .recover,#[],#[]⟩,ty,pos,af,none⟩::rest).toArray.size=0::(List.range' 1 rest.length):=by
  rw [ql,cC,List.range_eq_range',List.range'_succ]
 rw [al];simp only [wpOpsS,MS,Aa];rw [if_pos (kM _ rfl _)];have am:(execOp (act ⟨fn.ntmps,[],[],none⟩<|nH args).eval ⟨some d,.call ⟨.builtin .recover,#[],#[]⟩,ty,pos,af,none⟩).run P w= .ok .recover w:=by
  rw [jv];simp [execOp,resolve,invoke,builtin]
 rw [am];simp only;obtain ⟨J,O⟩:∃ J,J=({C with mode:=G} ::cs:List Frame):=⟨_,rfl⟩
 have ah:∀ X:Act→List Frame→Prop,X ((act ⟨fn.ntmps,[],[],none⟩<|nH args).put (some d) v) J→
  (match recoverD (C::cs) with
   | some (v,V)=>X ((act ⟨fn.ntmps,[],[],none⟩<|nH args).put (some d) v) V
   | none=>X ((act ⟨fn.ntmps,[],[],none⟩<|nH args).put (some d) .nilIface) (C::cs)):=by
  intro X aa;rcases aj C cs hu with h1 | ⟨h1,h2,h3⟩;rw [h1]; subst O; exact aa;rw [h1]; subst h2 h3;have :({C with mode:=G} :Frame)=C:=by subst hu; rfl
  rw [this] at O; subst O; exact aa
 refine ah (fun a V=>wpOpsS P _ _ _ a V w) ?_;rw [k9];refine VJ ?_ _ _ _ ?_;rintro ⟨a,w,h⟩;simp only [Exit.thenS,bodyPostS] at h;obtain ⟨_,_,h,_⟩:=h; cases h;have h1:=wpOps_eq_wpList (P:=P) (ops:=(⟨some d,.call ⟨.builtin .recover,#[],#[]⟩,ty,pos,af,none⟩::rest).toArray) (Q:=fun e a w'=>Exit.thenS (Code.wpS P y (bodyPostS P fn C cs fun e I w'=> ∃ v,e= .returned v∧I=G∧R w')) (bodyPostS P fn C cs fun e I w'=> ∃ v,e= .returned v∧I=G∧R w') e a J w') rest 1 fun j=>by simp [Nat.add_comm]
 rw [h1];unfold ej at h;refine Uw ?_ Cc _ _ _ h;intro e a w' E;have ab:∀ (e:dG) (σ:Nat→ag) (w':ak),fin P fn ⟨fn.ntmps,[],[],none⟩ (fun _ w=>R w) e σ w'→bodyPostS P fn C cs (fun e I w'=> ∃ v,e= .returned v∧I=G∧R w') e (act ⟨fn.ntmps,[],[],none⟩ σ) J w':=by
  intro e σ w' A;cases e with
  | normal=>obtain ⟨v,Z,Y⟩:=A; exact ⟨rfl,G,O,v,Z,v,rfl,rfl,Y⟩
  | ret=>obtain ⟨v,Z,Y⟩:=A; exact ⟨rfl,G,O,v,Z,v,rfl,rfl,Y⟩
  | _=>exact A.elim
 cases e with
 | normal=>
   obtain ⟨σ,rfl,A⟩:=E;refine wpS_of_wp ?_;simp only [mj] at A;unfold dA at A;refine LX ?_<|wpIn_wide.1 A;intro e a w' E;cases e with
   | panic c=>obtain ⟨σ,rfl,A⟩:=E; exact (A σ fun _ _=>rfl).elim
   | outgrown=>exact E.elim
   | _=>obtain ⟨σ,rfl,A⟩:=E; exact ab _ σ w' A
 | panic c=>obtain ⟨σ,rfl,A⟩:=E; exact (A σ fun _ _=>rfl).elim
 | outgrown=>exact E.elim
 | ret=>obtain ⟨σ,rfl,A⟩:=E; exact ab .ret σ w' A
 | exit i=>obtain ⟨σ,rfl,A⟩:=E; exact A.elim
 | goto i=>obtain ⟨σ,rfl,A⟩:=E; exact A.elim
section
variable {P:bH} {n:Nat} {F:List Nat} {σ:Nat→ag} {w:ak} {fn:lz} {R:ag→ak→Prop}
theorem RE {g:iz} {A:Array ag} {M:ak→Prop} (hu:(invoke (.fn (.func g) A) #[]).run P w= .ok (.enter g A) w)
 (E:CallsD P g A .returning w fun e G w'=> ∃ v,e= .returned v∧G= .returning∧M w') (C:∀ w',M w'→∃ v,(results fn (act ⟨n,[{target:= .fn (.func g) A,args:= #[]}],F,none⟩ σ).tmps).run P w'= .ok v w'∧R v w'):
 qb ⟨n,[{target:= .fn (.func g) A,args:= #[]}],F,none⟩ (rk P fn R) .ret σ w:=by
 refine leaves_cons (by simp) hu ?_;refine LW E ?_;rintro e I w' ⟨v,rfl,rfl,hm⟩;obtain ⟨v2,h1,h2⟩:=C w' hm;exact ⟨v2,h1,v2,aa,h2⟩
theorem pR {g:iz} {A:Array ag} {M:ak→Prop} {v:ag} (hu:(invoke (.fn (.func g) A) #[]).run P w= .ok (.enter g A) w)
 (E:CallsD P g A (.panicking [{v:=v,recovered:=false}]) w fun e G w'=> ∃ x,e= .returned x∧G= .panicking [{v:=v,recovered:=true}]∧M w') (C:∀ w',M w'→∃ v,(results fn (act ⟨n,[{target:= .fn (.func g) A,args:= #[]}],F,none⟩ σ).tmps).run P w'= .ok v w'∧R v w'):
 qb ⟨n,[{target:= .fn (.func g) A,args:= #[]}],F,none⟩ (rk P fn R) (.panic [{v:=v,recovered:=false}]) σ w:=by
 refine leaves_cons (by simp) hu ?_;refine LW E ?_;rintro e I w' ⟨x,rfl,rfl,hm⟩;obtain ⟨v2,h1,h2⟩:=C w' hm;exact ⟨v2,h1,v2,aa,h2⟩
end
end Go.Hb
end
section
namespace Go.Hb
def nf (w:ak) (B e n:Nat) (v:ag) (xs:List ag):Prop :=
 ∃ a cp,v= .slice a n cp∧n≤cp∧(xs= []∨∃ b o cur z,a=some ⟨b,o,none⟩∧B≤b∧w.heap[b]? =some (.cells cur e z)∧∀ (j:Nat) u,xs[j]? =some u→cur[o+j]? =some u)
theorem Tg.Yw {w:ak} {B e n:Nat} {v:ag} {xs:List ag} (h:Tg w B e n v xs):nf w B e n v xs:=by
 obtain ⟨a,cp,rfl,G,A⟩:=h;refine ⟨a,cp,aa,G,A.imp id ?_⟩;rintro ⟨b,cur,z,C,E,I,A⟩;exact ⟨b,0,cur,z,C,E,I,fun j u hu=>by rw [im]; exact A j u hu⟩
theorem nf.cells {w:ak} {B e n cp:Nat} {a:Option Addr} {xs:List ag} (h:nf w B e n (.slice a n cp) xs):n≤cp∧aB w.heap a xs:=by
 obtain ⟨I,c',G,C,A⟩:=h;cases G;rcases A with h | ⟨b,o,cur,z,rfl,_,E,A⟩
 · subst h; exact ⟨C,aB.nil _ _⟩
 · refine ⟨C,fun _=>rfl,fun j u hu=> ?_⟩;show Hb.aV w.heap b (o+j)=_;rw [a8 E]; exact A j u hu
theorem nf.slice {w:ak} {B e n:Nat} {v:ag} {xs:List ag} (h:nf w B e n v xs):∃ a cp,v= .slice a n cp:=let ⟨a,cp,hv,_⟩:=h; ⟨a,cp,hv⟩
theorem nf.md {F:Nat→Prop} {w w':ak} {B e n:Nat} {v:ag} {xs:List ag} (h:nf w B e n v xs) (hm:Md F w w') (E:∀ k,F k→∀ cur z,w.heap[k]?≠some (.cells cur e z)):nf w' B e n v xs:=by
 obtain ⟨a,cp,rfl,C,h | ⟨b,o,cur,z,rfl,G,A,I⟩⟩:=h
 · exact ⟨a,cp,aa,C,.inl h⟩
 · exact ⟨_,cp,aa,C,.inr ⟨b,o,cur,z,aa,G,by rw [hm.dx b (dD.1 A).1 (fun hk=>E b hk cur z A)]; exact A,I⟩⟩
theorem nf.qE {w:ak} {B e n m cp:Nat} {a:Option Addr} {xs:List ag} (h:nf w B e (n+1) (.slice a (n+1) cp) xs) (I:xs.length=(n+1)*m):nf w B e n (.slice (iy a cp 1 m) n<|cp - 1) (xs.drop m):=by
 obtain ⟨O,c',G,V,E⟩:=h;cases G;refine ⟨_,_,aa,ab,?_⟩;rcases E with rfl | ⟨b,o,cur,z,rfl,A,C,J⟩
 · exact .inl<|by simp
 · unfold iy;by_cases h1:cp=1
   · refine .inl<|fY ?_;obtain rfl :n=0:=ab;rw [fP,I]; omega
   · rw [if_neg h1];refine .inr ⟨b,o+1 *m,cur,z,?_,A,C,fun j u hu=> ?_⟩
     · rw [lB,mE]
     · rw [rh] at hu;have :=J _ u hu;rw [show o+1 *m+j=o+(m+j) from by omega]; exact this
def eD (w:ak) (B e:Nat) (vs:List ag) (A:List (List Nat)):Prop :=vs.length=A.length∧∀ (i:Nat) v l,vs[i]? =some v→A[i]? =some l→Tg w B e l.length v (l.map bf)
theorem eD.nil (w:ak) (B e:Nat):eD w B e [] []:=⟨rfl,fun i v l A=>by simp at A⟩
theorem eD.md {F:Nat→Prop} {w w':ak} {B e:Nat} {vs:List ag} {A:List (List Nat)} (h:eD w B e vs A) (hm:Md F w w') (C:∀ k,F k→∀ cur z,w.heap[k]?≠some (.cells cur e z)):eD w' B e vs A:=⟨h.1,fun i v l h1 h2=>(h.2 i v l h1 h2).md hm C⟩
theorem eD.wk {w w':ak} {B e:Nat} {vs:List ag} {A:List (List Nat)} (h:eD w B e vs A) (hm:Wk w w'):eD w' B e vs A:=h.md hm fun _ hk=>hk.elim
theorem eD.mono {w:ak} {B B' e:Nat} {vs:List ag} {A:List (List Nat)} (h:eD w B e vs A) (C:B'≤B):eD w B' e vs A:=⟨h.1,fun i v l h1 h2=>(h.2 i v l h1 h2).mono C⟩
theorem eD.snoc {w:ak} {B e:Nat} {vs:List ag} {C:List (List Nat)} {v:ag} {l:List Nat} (A:eD w B e vs C) (G:Tg w B e l.length v (l.map bf)):eD w B e (vs++ [v]) (C++ [l]):=by
 refine ⟨by rw [bG,bG,A.1]; rfl,fun i I J h1 h2=> ?_⟩;have E:=A.1;by_cases hi:i < vs.length
 · rw [mX hi] at h1;rw [mX ab] at h2;exact A.2 i I J h1 h2
 · rw [nN ab] at h1;rw [nN ab,← E] at h2;cases hj:i - vs.length with
   | zero=>rw [hj] at h1 h2; cases h1; cases h2; exact G
   | succ j=>rw [hj] at h1; simp at h1
def jM (t ln:Nat) (e:Int):List PanicEntry:= [{v:= .iface t (.agg [.int .i64 1,.int .i64 (ln:Nat),.int .i64 e].toArray),recovered:=false}]
theorem eJ {h:ak} {b:Nat} {isK:ag→Prop} {f:ag→Option ag} (hm:cR h.heap b isK f):tag h b=1:=let ⟨_,h1,_⟩:=hm; zr h1
def Wr (L:List Nat) (ms mt mc B:Nat) (w:ak) (k:Nat):Prop :=B≤k∧(k=ms∨k=mt∨k=mc∨L.contains (tag w k)=true)
abbrev Mw (L:List Nat) (ms mt mc B:Nat) (w w':ak):Prop :=Md (Wr L ms mt mc B w) w w'
section
variable {L:List Nat} {ms mt mc B:Nat} {w w' w'':ak}
theorem Mw.trans (h:Mw L ms mt mc B w w') (A:Mw L ms mt mc B w' w''):Mw L ms mt mc B w w'':=by
 refine Md.trans' h A fun k hk hw=> ?_;refine Classical.byContradiction fun hn=> ?_;have :=Md.tag h hk hn;unfold Wr at hw;rw [this] at hw;exact hn hw
theorem Wk.mw (h:Wk w w'):Mw L ms mt mc B w w':=h.mono fun _ _ A=>A.elim
theorem Mw.of {F:Nat→Prop} (h:Md F w w') (E:TF w L F) (C:∀ k,F k→B≤k):Mw L ms mt mc B w w':=h.mono fun k _ A=>⟨C k A,.inr<|.inr<|.inr<|E k A⟩
theorem Mw.wk {w0:ak} (A:Wk w0 w) (h:Mw L ms mt mc B w w') (C:w0.heap.size≤B):Wk w0 w':=Md.trans' A h fun k hk hw=>by have :=hw.1; omega
theorem Wr.ne (hs:tag w ms=1) (I:tag w mt=1) (G:tag w mc=1) {e:Nat} (E:L.contains (e+2)=false):∀ k,Wr L ms mt mc B w k→∀ cur z,w.heap[k]?≠some (.cells cur e z):=by
 rintro k ⟨_,rfl | rfl | rfl | h⟩ cur z C <;> have A:=dC C
 · omega
 · omega
 · omega
 · rw [A,E] at h; cases h
end
end Go.Hb
end
section
namespace Go.Hb
section
variable {P:bH} {N:Fm} {σ:Nat→ag} {w:ak} {dst:Option Nat} {ty:bB} {pos :String} {af:Array fO} {g:Option (Nat×Bool)} {x y:ek}
theorem Ru (d:Nat) {t e:bB} {a:Option Addr} {n c:Nat} (hu:P.underlying t=some (.slice e)):(Op.equalIn (d+1) t (.slice a n c)<|.slice none 0 0).run P w= .ok a.isNone w:=by
 cases a <;> simp [Op.equalIn,dV hu]
theorem Rv {t e:bB} {a:Option Addr} {n c:Nat} (hu:P.underlying t=some (.slice e)):(Op.equal t (.slice a n c)<|.slice none 0 0).run P w= .ok a.isNone w:=Ru 9999 hu
theorem rF {t E e:bB} {a:Option Addr} {n c:Nat} (hu:P.underlying t=some (.slice e)) (A:ev N σ x= .slice a n c) (C:ev N σ y= .slice none 0 0):
 (execOp (ev N σ) ⟨dst,.binOp .eql t x y E,ty,pos,af,g⟩).run P w= .ok (.value<|.bool a.isNone) w:=by
 have h:(binOp .eql t (.slice a n c)<|.slice none 0 0).run P w= .ok (.bool a.isNone) w:=by
  simp only [binOp]; simp [Rv hu]
 simp [execOp,A,C,eqGuard,h]
end
def Rd (h:Array Obj) (v:ag) (n size:Nat) (xs:List ag):Prop := ∃ a c,v= .slice a n c∧aB h a xs∧xs.length=n*size∧(a=none→n=0)
theorem Rd.j5 {w:ak} {B e size n:Nat} {v:ag} {xs:List ag} (h:w.ownsRow B e size v n xs):Rd w.heap v n size xs:=by
 obtain ⟨a,c,rfl,h1,_,_,h3⟩:=uw h;refine ⟨a,c,aa,h1,h.1,fun A=> ?_⟩;subst A;rcases h.2 with ⟨h4,h5⟩ | ⟨g,cap,cur,h4,_⟩
 · exact h5
 · simp at h4
theorem JA {w:ak} {B e size n k cp:Nat} {a:Option Addr} {xs:List ag} (h:w.ownsRow B e size (.slice a n cp) n xs) (hk:k≤n) (G:a≠none):w.ownsRow B e size (.slice a k cp) k (xs.take<|k*size):=by
 obtain ⟨A,h⟩:=h;refine ⟨by rw [dJ,A]; exact qn (qo _ hk),?_⟩;rcases h with ⟨h1,_⟩ | ⟨g,cap,cur,h1,h2,h3,h4,h5,C,E⟩
 · simp only [mq] at h1; exact absurd h1.1 G
 · simp only [mq,true_and] at h1;obtain ⟨rfl,rfl⟩:=h1;refine .inr ⟨g,_,cur,aa,h2,h3,ab,h5,C,?_⟩;rw [← E,M5,qn (qo _ hk)]
section
variable {P:bH} {N:Fm} {σ:Nat→ag} {w:ak} {dst:Option Nat} {ty:bB} {pos :String} {af:Array fO} {g:Option (Nat×Bool)} {x y z u:ek} {K:(Nat→ag)→ak→Prop}
theorem XD {t n len cap:Nat} {a:Option Addr} {k k' G:ew} {i j m:Nat} (he:gw P t=some n) (A:ev N σ x= .slice a len cap) (C:ev N σ y= .int k (i:Nat)) (E:ev N σ z= .int k' (j:Nat)) (hu:ev N σ u= .int G (m:Nat)) (h:i≤j∧j≤m∧m≤cap):
 (execOp (ev N σ) ⟨dst,.slice t x (some y) (some z) (some u),ty,pos,af,g⟩).run P w= .ok (.value<|.slice (iy a m i n) (j - i)<|m - i) w:=by
 have h1:(0:Int)≤(i:Int):=ab;have h2:(0:Int)≤(j:Int):=ab;have h3:(0:Int)≤(m:Int):=ab;unfold gw at he;cases hd:P.underlying t with
 | none=>rw [hd] at he; cases he
 | some d=>
   rw [hd] at he;cases d <;> first | (cases he; done) | skip
   rename_i e;cases hi':P.info? e with
   | none=>simp [hi'] at he
   | some q=>
     simp only [hi',lB,gJ] at he;subst he;simp only [execOp,tu,Instr.slice,A,C,E,hu,lB,qc,Instr.sliceBound,asIntOf];simp [dV hd,jn hi',sizeOf,h.1,h.2.1,h.2.2,iy]
theorem N0 {t e size bytes B n m cp c A:Nat} {xs news:List ag} {a:Option Addr} (aa:gj P t e size bytes=true) (O:w.ownsRow B e size (.slice (some ⟨A,0,none⟩) n cp) n xs) (ab:ev N σ x= .slice (some ⟨A,0,none⟩) n cp)
 (ac:ev N σ y= .slice a m c) (G:aB w.heap a news) (I:a≠none) (J:news.length=m*size) (h1:news.all fX=true) (Z:n+m≤cp)
 (k:∀ w',Md (fun q=>q=A) w w'→w'.ownsRow B e size (.slice (some ⟨A,0,none⟩) (n+m) cp) (n+m) (xs++news)→K (gy σ dst<|.slice (some ⟨A,0,none⟩) (n+m) cp) w'):
 dI P N ⟨dst,.call ⟨.builtin .append,#[x,y],#[t,t]⟩,ty,pos,af,g⟩ σ w K:=by
 obtain ⟨hu,i,zv,hi,ai,hs,ae,aj,ah⟩:=r5 aa;obtain ⟨ad,rfl⟩:∃ ad,a=some ad:=by cases a with | none=>exact absurd rfl I | some ad=>exact ⟨ad,rfl⟩
 have hn:∀ j v,news[j]? =some v→w.cell? (ad.add j)=some v:=fun j v C=>by
  have E:news≠[]:=fun e=>by rw [e] at C; simp at C
  have h2:=G.ok E;simp only [gJ] at h2;rw [h2,mE,nW]; exact G.aV j v C
 obtain ⟨w',Y,h2,h3⟩:=Go.run_append_fits (P:=P) (w:=w) B t ty e i size hu hi hs A n cp xs O ad m c news J hn (vv h1) Z;refine mW (w':=w') (v:= .slice (some ⟨A,0,none⟩) (n+m) cp) ?_<|k w' ⟨h3.os,h3.output,h3.size,fun q V E=>h3.block q V fun e=>E<|vj e⟩ h2;simp [execOp,resolve,invoke,builtin,ab,ac,Y]
end
end Go.Hb
end
section
namespace Go.Hb
def rq (P:bH) (t:bB):Option (Nat×Nat):=
 match P.underlying t with
 | some (.array n e)=>(P.info? e).map fun i=>(n,i.size)
 | _=>none
section
variable {P:bH} {N:Fm} {σ:Nat→ag} {w:ak} {dst:Option Nat} {ty:bB} {pos :String} {af:Array fO} {g:Option (Nat×Bool)} {x y:ek}
theorem kF {t n C b off :Nat} {k:ew} {i:Int} (he:rq P t=some (n,C)) (E:ev N σ x= .pointer (some ⟨b,off,none⟩)) (G:ev N σ y= .int k i) (A:0≤i∧i < n):
 (execOp (ev N σ) ⟨dst,.indexAddr t x y,ty,pos,af,g⟩).run P w= .ok (.value<|.pointer<|some ⟨b,off+i.toNat*C,none⟩) w:=by
 unfold rq at he;cases hd:P.underlying t with
 | none=>rw [hd] at he; cases he
 | some d=>
   rw [hd] at he;cases d <;> first | (cases he; done) | skip
   rename_i m e;cases hi:P.info? e with
   | none=>simp [hi] at he
   | some j=>
     simp only [hi,lB,gJ,vk] at he;obtain ⟨rfl,rfl⟩:=he;simp [execOp,Instr.indexAt,si,E,G,asIntOf,dV hd,A.1,A.2,sizeOf,jn hi,mE]
end
theorem UT {h:Array Obj} {b:Nat} {a:List UInt8} (A:bO h b (marksOf a)) (c:UInt8):Hb.aV h b (0 +((c.toNat:Nat):Int).toNat*1)=some (.bool<|decide (c∈a)):=by
 rw [A.aV,show 0 +((c.toNat:Nat):Int).toNat*1=c.toNat from by omega]; exact UQ a c
theorem UU {h:Array Obj} {b:Nat} {a:List UInt8} {c:UInt8} (A:bO h b ((marksOf a).set (0 +((c.toNat:Nat):Int).toNat*1)<|.bool true)):bO h b (marksOf<|a++ [c]):=by
 rw [show 0 +((c.toNat:Nat):Int).toNat*1=c.toNat from by omega,US] at A; exact A
end Go.Hb
end
section
namespace Go.Hb
theorem TZ (c:UInt8):∀ l:List UInt8,Mf l c=fF c l:=by
 intro l
 induction l with
 | nil=>rfl
 | cons b l G=>
   unfold Mf;rw [G];rw [show fF c (b::l)=if (b::l).idxOf c < (b::l).length then ((b::l).idxOf c:Int) else -1 from rfl,uZ];by_cases h:(b==c)=true
   · rw [if_pos h,h]; rfl
   · have C:(b==c)=false :=by simpa using h
     rw [if_neg h,C];simp only [cond_false,cC];by_cases h1:l.idxOf c < l.length
     · have A:fF c l=l.idxOf c:=if_pos h1;rw [A,if_neg (fun E=>by have :=eq_of_beq E; omega),if_pos ab]; rfl
     · have A:fF c l= -1:=if_neg h1;rw [A,if_pos aw,if_neg ab]
theorem Xg {P:bH} {f:iz} {fn:lz} (C:P.funcs[f]? =some fn) (E:(fn.name== "runtime.NumGoroutine")=false) (A:fn.body.isNone=true) (hn:L5 fn=none)
 (he:L4 fn=some ZR) (l:List UInt8) (c:UInt8) (w:ak):(callFunc f #[str l,.int .u8 c.toNat]).run P w= .ok (.value<|.int .i64<|fF c l) w:=by
 rw [run_callFunc_extern C E A hn he];unfold str;rw [Lib.run_indexByteString];have h1:((c.toNat:Int)).toNat.toUInt8=c:=lC.1<|by simp
 rw [h1,TZ];rfl
theorem Xf {P:bH} {f:iz} {fn:lz} (C:P.funcs[f]? =some fn) (E:(fn.name== "runtime.NumGoroutine")=false) (A:fn.body.isNone=true) (hn:L5 fn=none)
 (he:L4 fn=some ZQ) (l:List UInt8) (c:UInt8) (w:ak):(callFunc f #[str l,.int .u8 c.toNat]).run P w= .ok (.value<|.int .i64 (l.count c:Nat)) w:=by
 rw [run_callFunc_extern C E A hn he];unfold str;rw [Lib.run_countString];have h1:((c.toNat:Int)).toNat.toUInt8=c:=lC.1<|by simp
 rw [h1];rfl
section
variable {P:bH} {N:Fm} {σ:Nat→ag} {w:ak} {dst:Option Nat} {ty:bB} {pos :String} {af:Array fO} {g:Option (Nat×Bool)}
theorem FN {f:iz} {a b v:ag} {args:Array ek} {A:Array bB} (h:(callFunc f #[a,b]).run P w= .ok (.value v) w) (C:args.toList.map (ev N σ)= [a,b]):
 (execOp (ev N σ) ⟨dst,.call ⟨.value (.func f),args,A⟩,ty,pos,af,g⟩).run P w= .ok (.value v) w:=by
 have :args.map (ev N σ)= #[a,b]:=by rw [← zO,nK,C]
 simp [execOp,resolve,ev,sh,invoke,this,h]
end
end Go.Hb
end
section
namespace Go.Hb
theorem Xp {L:List ag} {o:Nat} {v:ag} (h:o < L.length):(L.set o v).take (o+1)=L.take o++ [v]:=by
 rw [M1,if_pos h,Ai,dJ,qn ab,Ez,eY (by rw [dJ]; omega)];rfl
theorem Xo {L:List ag} {o m:Nat} {v:ag} (h:o < m):(L.set o v).drop m=L.drop m:=by
 rw [ME,if_pos h]
theorem Kl (b e:Nat):∀ (vs:List ag) (o:Nat) (L:List ag) (w:ak),w.heap[b]? =some (.cells L.toArray e (0,0))→o+vs.length≤L.length→
 (w.setCells b o vs).heap[b]? =some (.cells (L.take o++vs++L.drop (o+vs.length)).toArray e (0,0))∧Md (fun k=>k=b) w (w.setCells b o vs):=by
 intro vs
 induction vs with
 | nil=>intro o L w A _; exact ⟨by simpa [World.setCells] using A,Md.refl _ _⟩
 | cons v r J=>
   intro o L w A E;simp only [cC] at E;have h1:(w.setCell ⟨b,o,none⟩ v).heap[b]? =some (.cells (L.set o v).toArray e (0,0)):=by
    have G:=(dD.1 A).1;have I:w.heap[b]= .cells L.toArray e (0,0):=(dD.1 A).2;simp only [zW];rw [xh (by simpa using G),Array.getElem_modify];simp [I,List.setIfInBounds_toArray]
   have C:Md (fun k=>k=b) w (w.setCell ⟨b,o,none⟩ v):=⟨rfl,rfl,by simp [zW],fun k _ hk=>Below.heap_setCell w _ v k hk⟩
   obtain ⟨h2,h3⟩:=J (o+1) (L.set o v) _ h1<|by rw [List.length_set]; omega
   refine ⟨?_,Md.trans C h3⟩;show ((w.setCell ⟨b,o,none⟩ v).setCells b (o+1) r).heap[b]? =_;rw [h2,Xp ab,Xo ab,cC,show o+1 +r.length=o+(r.length+1) from by omega];simp
section
variable {P:bH} {N:Fm} {σ:Nat→ag} {w:ak} {ty:bB} {pos :String} {af:Array fO} {g:Option (Nat×Bool)} {x:ek} {K:(Nat→ag)→ak→Prop}
theorem Pm {t e B n k cp c' m:Nat} {a:Option Addr} {xs:List ag} {z:ag} (ak:P.underlying t=some (.slice e)) (am:zeroV P e=some z) (h1:z.oneCell'=true) (ac:w.ownsRow B e 1 (.slice a n cp) n xs)
 (G:ev N σ x= .slice (iy a cp k 1) m c') (hm:m=n - k) (hk:k < n) (an:∀ w',Md (fun q=>(bQ a n cp).ownBlock=some q) w w'→w'.ownsRow B e 1 (.slice a n cp) n (xs.take k++ku (n - k) z)→K σ w'):
 dI P N ⟨none,.call ⟨.builtin .clear,#[x],#[t]⟩,ty,pos,af,g⟩ σ w K:=by
 obtain ⟨J,h⟩:=ac;subst hm;rcases h with ⟨h,rfl⟩ | ⟨A,ao,cur,h,O,Y,hle,V,aj,al⟩
 · omega
 · simp only [mq,true_and] at h;obtain ⟨rfl,rfl⟩:=h;have ai:iy (some ⟨A,0,none⟩) cp k 1=some ⟨A,k,none⟩:=by
    unfold iy; rw [if_neg ab]; simp [mE]
   rw [ai] at G;have E:w.heap[A]? =some (.cells cur.toList.toArray e (0,0)):=by simpa using Y
   have C:cur.toList.length=cp*1:=by rw [xi]; exact aj
   have ah:=Mg (P:=P) w t e ty z ak (fun w=>xg am w) (by cases z <;> first | rfl | (cases h1; done)) h1 A k (n - k) c' ab
    (fun j Z=>by rw [nW,a8 E]; simp; omega) (fun j Z=>by simp only [Mt,show w.heap[A]? =_ from E]; simp)
   obtain ⟨h2,h3⟩:=Kl A e (ku (n - k) z) k cur.toList w E<|by rw [pE,C]; omega
   refine mW (w':=w.setCells A k<|ku (n - k) z) (v:= .tuple #[]) ?_ (an _ (h3.mono fun q _ ae=>by subst ae; rfl) ⟨?_,.inr ⟨A,cp,_,aa,O,h2,hle,V,?_,?_⟩⟩)
   · simp [execOp,resolve,invoke,builtin,G,ah]
   · rw [bG,dJ,pE,J]; omega
   · simp only [ql,bG,dJ,fP,pE,C]; omega
   · rw [pE,vg];have I:(cur.toList.take k++ku (n - k) z++cur.toList.drop (k+(n - k))).toArray.toList=(cur.toList.take k++ku (n - k) z)++cur.toList.drop (k+(n - k)):=rfl;rw [I,Ai,bG,dJ,pE,C,qn ab,show n - (k+(n - k))=0 by omega,pH,ez,eY (by rw [bG,dJ,pE,C]; omega)];rw [← al,M5,vg,qn ab]
theorem Po {t e B n cp c' m:Nat} {a:Option Addr} {xs:List ag} {z:ag} (al:P.underlying t=some (.slice e)) (an:zeroV P e=some z) (h1:z.oneCell'=true) (ae:w.ownsRow B e 1 (.slice a n cp) n xs) (V:a≠none)
 (G:ev N σ x= .slice (iy a cp n 1) m c') (hm:0 < m∧n+m≤cp) (ao:∀ w',Md (fun q=>(bQ a n cp).ownBlock=some q) w w'→w'.ownsRow B e 1 (.slice a n cp) n xs→K σ w'):
 dI P N ⟨none,.call ⟨.builtin .clear,#[x],#[t]⟩,ty,pos,af,g⟩ σ w K:=by
 obtain ⟨J,h⟩:=ae;rcases h with ⟨h,rfl⟩ | ⟨A,ap,cur,h,O,Z,hle,Y,ak,am⟩
 · simp only [mq] at h; exact absurd h.1 V
 · simp only [mq,true_and] at h;obtain ⟨rfl,rfl⟩:=h;have aj:iy (some ⟨A,0,none⟩) cp n 1=some ⟨A,n,none⟩:=by
    unfold iy; rw [if_neg ab]; simp [mE]
   rw [aj] at G;have E:w.heap[A]? =some (.cells cur.toList.toArray e (0,0)):=by simpa using Z
   have C:cur.toList.length=cp*1:=by rw [xi]; exact ak
   have ai:=Mg (P:=P) w t e ty z al (fun w=>xg an w) (by cases z <;> first | rfl | (cases h1; done)) h1 A n m c' hm.1
    (fun j ac=>by rw [nW,a8 E]; simp; omega) (fun j ac=>by simp only [Mt,show w.heap[A]? =_ from E]; simp)
   obtain ⟨h2,h3⟩:=Kl A e (ku m z) n cur.toList w E<|by rw [pE,C]; omega
   refine mW (w':=w.setCells A n<|ku m z) (v:= .tuple #[]) ?_ (ao _ (h3.mono fun q _ ah=>by subst ah; rfl) ⟨J,.inr ⟨A,cp,_,aa,O,h2,hle,Y,?_,?_⟩⟩)
   · simp [execOp,resolve,invoke,builtin,G,ai]
   · simp only [ql,bG,dJ,fP,pE,C]; omega
   · rw [pE,vg];have I:(cur.toList.take n++ku m z++cur.toList.drop (n+m)).toArray.toList=cur.toList.take n++(ku m z++cur.toList.drop (n+m)):=eX _ _ _;rw [I,Ai,dJ,C,qn ab,Nat.sub_self,pH,ez,eY (by rw [dJ]; omega),← am,vg]
end
end Go.Hb
end
section
namespace Go.Hb
def AE (P:bH) (t:bB):Option (List ag):=
 match P.info? t,P.underlying t with
 | some it,some (.array _ e)=>
   match it.zero,P.info? e with
   | some z,some ie=>if ie.size=1 then some z.cells.toList else none
   | _,_=>none
 | _,_=>none
def wu:List ag→List (Nat×ag)→Option (List ag)
 | A,[]=>some A
 | A,(i,v)::r=>if (v.oneCell' && gu i A.length)=true then wu (A.set i v) r else none
theorem Wo {A L:List ag} {ps:List (Nat×ag)} (h:wu A ps=some L):nL (fun i=>some (i*1,1)) A.toArray ps=some L.toArray:=by
 induction ps generalizing A with
 | nil=>simp only [wu,gJ] at h; subst h; rfl
 | cons q r G=>
   obtain ⟨i,v⟩:=q;rw [wu] at h;split at h
   · rename_i C;simp only [il] at C;have E:=rV C.1;have I:i < A.length:=sA C.2;simp only [nL,E,vg];rw [if_neg (by simp; omega)];have :=G h;simp only [vg] at this;rw [← this];simp
   · cases h
section
variable {P:bH} {N:Fm} {σ:Nat→ag} {w:ak} {dst:Option Nat} {ty:bB} {pos :String} {af:Array fO} {g:Option (Nat×Bool)}
theorem Fe {t:bB} {parts:Array (Nat×ek)} {A L:List ag} {ps:List (Nat×ag)} (h:AE P t=some A) (hp:parts.toList.map (fun q=>(q.1,ev N σ q.2))=ps) (C:wu A ps=some L):
 (execOp (ev N σ) ⟨dst,.build t parts,ty,pos,af,g⟩).run P w= .ok (.value<|.agg L.toArray) w:=by
 unfold AE at h;split at h
 · rename_i it n e hi hu;split at h
   · rename_i z I G he;split at h
     · rename_i hs;simp only [gJ] at h;subst h;have E:P.built t (parts.map fun q=>(q.1,ev N σ q.2)).toList=some L.toArray:=by
        have :=Wo C;simp only [zM] at this;simp only [Program.built,hi,hu,G,he,hs,nK,hp]; exact this
       simp [execOp,run_build w t _ _ E]
     · cases h
   · cases h
 · cases h
end
end Go.Hb
end
section
namespace Go.Hb
abbrev bp:Type :=Tx×List Nat
noncomputable def gh (F:aE) (row:List Tx):Except Nat bp:=
 if row.length≠1 then .error 111
 else if (bD<|row.getD 0 []).2.2.2≠0 then .error (bD<|row.getD 0 []).2.2.2
 else if gL (bD<|row.getD 0 []).1=false∨(bD<|row.getD 0 []).1= [] then .error 21
 else if 64 < (bD<|row.getD 0 []).1.length then .error 22
 else if (bD<|row.getD 0 []).2.2.1=false then .ok ((bD<|row.getD 0 []).1,[])
 else match gx F.kind F.aliases (bD<|row.getD 0 []).2.1 with
  | .error e=> .error e
  | .ok set =>if set.all (eM F)=true then .ok ((bD<|row.getD 0 []).1,set) else .error 120
section
variable {F:aE} {row:List Tx}
theorem GC (h:row.length≠1):gh F row= .error 111:=if_pos h
theorem x8 (h:row.length=1) (h1:(bD<|row.getD 0 []).2.2.2≠0):gh F row= .error (bD<|row.getD 0 []).2.2.2:=by
 unfold gh; rw [if_neg (fun h2=>h2 h),if_pos h1]
variable (h:row.length=1) (h1:(bD (row.getD 0 [])).2.2.2=0)
include h h1
theorem x9 (h2:gL (bD<|row.getD 0 []).1=false∨(bD<|row.getD 0 []).1= []):gh F row= .error 21:=by
 unfold gh; rw [if_neg (fun h2=>h2 h),if_neg (fun h2=>h2 h1),if_pos h2]
variable (h2:gL (bD (row.getD 0 [])).1=true) (h3:(bD (row.getD 0 [])).1≠[])
include h2 h3
omit h h1 in
theorem vE:¬(gL (bD<|row.getD 0 []).1=false∨(bD<|row.getD 0 []).1= []):=fun h=>h.elim (fun h=>by rw [h2] at h; cases h) h3
theorem GD (h4:64 < (bD<|row.getD 0 []).1.length):gh F row= .error 22:=by
 unfold gh; rw [if_neg (fun h2=>h2 h),if_neg (fun h2=>h2 h1),if_neg (vE h2 h3),if_pos h4]
variable (h4:¬64 < (bD (row.getD 0 [])).1.length)
include h4
theorem GF (h5:(bD<|row.getD 0 []).2.2.1=false):gh F row= .ok ((bD<|row.getD 0 []).1,[]):=by
 unfold gh; rw [if_neg (fun h2=>h2 h),if_neg (fun h2=>h2 h1),if_neg (vE h2 h3),if_neg h4,if_pos h5]
variable (h5:(bD (row.getD 0 [])).2.2.1=true)
include h5
theorem GG {e:Nat} (A:gx F.kind F.aliases (bD<|row.getD 0 []).2.1= .error e):gh F row= .error e:=by
 unfold gh; rw [if_neg (fun h2=>h2 h),if_neg (fun h2=>h2 h1),if_neg (vE h2 h3),if_neg h4,if_neg (by rw [h5]; exact dM),A]
theorem GH {set :List Nat} {i:Nat} (A:gx F.kind F.aliases (bD<|row.getD 0 []).2.1= .ok set) (hi:i < set.length) (C:eM F (set.getD i 0)=false):gh F row= .error 120:=by
 unfold gh; rw [if_neg (fun h2=>h2 h),if_neg (fun h2=>h2 h1),if_neg (vE h2 h3),if_neg h4,if_neg (by rw [h5]; exact dM),A];exact if_neg<|by rw [E0 0 hi C]; exact dM
theorem Bb {set :List Nat} (A:gx F.kind F.aliases (bD<|row.getD 0 []).2.1= .ok set) (C:∀ i,i < set.length→eM F (set.getD i 0)=true):gh F row= .ok ((bD<|row.getD 0 []).1,set):=by
 unfold gh; rw [if_neg (fun h2=>h2 h),if_neg (fun h2=>h2 h1),if_neg (vE h2 h3),if_neg h4,if_neg (by rw [h5]; exact dM),A];exact if_pos<|E1 0 C
end
noncomputable def fk (F:aE) (eof:Nat):Nat→List Rw→Except (Nat×Nat) (List bp)
 | 0,[]=> .ok []
 | _+1,[]=> .error (eof,116)
 | 0,(ln,_)::_=> .error (ln,116)
 | n+1,(ln,row)::rows=>match gh F row with
   | .error e=> .error (ln,e)
   | .ok x=>match fk F eof n rows with
     | .error e=> .error e
     | .ok r=> .ok (x::r)
noncomputable def fD (F:aE) (t:Tx):Except (Nat×Nat) (List bp):=
 if 65536 < t.length then .error (0,10)
 else match bT t with
  | []=> .error ((bL t).length+1,116)
  | (ln,row)::rows=>if row.length≠1 then .error (ln,111) else match e8 (row.getD 0 []) 8192 with
    | .error e=> .error (ln,e)
    | .ok n=>fk F ((bL t).length+1) n rows
def jg (F:aE) (eof:Nat) (T:Except (Nat×Nat) (List bp)) (xs:List bp) (n:Nat) (rows:List Rw):Prop :=
 T=match fk F eof n rows with
  | .error e=> .error e
  | .ok r=> .ok<|xs++r
section
variable {F:aE} {eof n ln:Nat} {T:Except (Nat×Nat) (List bp)} {xs:List bp} {rows:List Rw} {row:List Tx}
theorem jg.start:jg F eof (fk F eof n rows) [] n rows:=by
 unfold jg; cases fk F eof n rows <;> rfl
theorem jg.done (h:jg F eof T xs 0 []):T= .ok xs:=by
 unfold jg at h; rw [fk] at h; simpa using h
theorem jg.ends (h:jg F eof T xs n []) (hn:0 < n):T= .error (eof,116):=by
 obtain ⟨m,rfl⟩:∃ m,n=m+1:=⟨n - 1,ab⟩
 unfold jg at h; rw [fk] at h; exact h
theorem jg.more (h:jg F eof T xs 0 ((ln,row)::rows)):T= .error (ln,116):=by
 unfold jg at h; rw [fk] at h; exact h
theorem jg.bad {e:Nat} (h:jg F eof T xs n ((ln,row)::rows)) (hn:0 < n) (he:gh F row= .error e):T= .error (ln,e):=by
 obtain ⟨m,rfl⟩:∃ m,n=m+1:=⟨n - 1,ab⟩
 unfold jg at h; rw [fk,he] at h; exact h
theorem jg.step {x:bp} (h:jg F eof T xs n ((ln,row)::rows)) (hn:0 < n) (he:gh F row= .ok x):jg F eof T (xs++ [x]) (n - 1) rows:=by
 obtain ⟨m,rfl⟩:∃ m,n=m+1:=⟨n - 1,ab⟩
 unfold jg at h ⊢; rw [fk,he] at h;rw [h,tE];simp only;cases fk F eof m rows <;> simp
end
section
variable {F:aE} {t:Tx}
theorem Gr (h:65536 < t.length):fD F t= .error (0,10):=if_pos h
theorem Gs (h:¬65536 < t.length) (h1:bT t= []):fD F t= .error ((bL t).length+1,116):=by
 unfold fD; rw [if_neg h,h1]
variable {ln:Nat} {row:List Tx} {rows:List Rw} (h:¬65536 < t.length) (h1:bT t=(ln,row)::rows)
include h h1
theorem QT (h2:row.length≠1):fD F t= .error (ln,111):=by
 unfold fD; rw [if_neg h,h1]; exact if_pos h2
theorem QW (h2:row.length=1) {e:Nat} (h3:e8 (row.getD 0 []) 8192= .error e):fD F t= .error (ln,e):=by
 unfold fD; rw [if_neg h,h1]; simp only; rw [if_neg (fun h=>h h2),h3]
theorem Gq (h2:row.length=1) {n:Nat} (h3:e8 (row.getD 0 []) 8192= .ok n):fD F t=fk F ((bL t).length+1) n rows:=by
 unfold fD; rw [if_neg h,h1]; simp only; rw [if_neg (fun h=>h h2),h3]
end
theorem Sp {α:Type} {a b:List α} {i:Nat} {d:α} (h:i < a.length):(a++b).getD i d=a.getD i d:=by
 rw [cH,cH,mX h]
def idxs (s:Tx) (xs:List bp):List Nat:=(gT xs.length).filter fun i=>decide ((xs.getD i ([],[])).1=s)
theorem BX (s:Tx) (xs:List bp) (x:bp):idxs s (xs++ [x])=idxs s xs++(if x.1=s then [xs.length] else []):=by
 unfold idxs;rw [bG,fg,xA,q9];congr 1
 · refine List.filter_congr fun i hi=> ?_;have hi:i < xs.length:=by simpa using hi
   rw [Sp hi]
 · by_cases A:x.1=s <;> simp [List.filter,A]
theorem BW (s:Tx) (xs:List bp):(idxs s xs).length≤xs.length:=by
 unfold idxs; have :=qg (fun i=>decide ((xs.getD i ([],[])).1=s)) (gT xs.length); simpa using this
theorem Rj {F:aE} {eof:Nat} :∀ {n:Nat} {rows:List Rw} {r:List bp},fk F eof n rows= .ok r→r.length=n∧rows.length=n:=by
 intro n
 induction n with
 | zero=>
   intro rows r h;cases rows with
   | nil=>rw [fk] at h; cases h; exact ⟨rfl,rfl⟩
   | cons q rows=>rw [fk] at h; cases h
 | succ n A=>
   intro rows r h;cases rows with
   | nil=>rw [fk] at h; cases h
   | cons q rows=>
     rw [fk] at h;split at h
     · cases h
     · split at h
       · cases h
       · rename_i h2;cases h;have :=A h2;simp only [cC]; omega
end Go.Hb
end
section
namespace Go.Hb
section
variable {P:bH} {N:Fm} {σ:Nat→ag} {w:ak} {dst:Option Nat} {ty:bB} {pos :String} {af:Array fO} {g:Option (Nat×Bool)} {x:ek}
theorem N5 {t n C b:Nat} (he:rq P t=some (n,C)) (A:ev N σ x= .pointer (some ⟨b,0,none⟩)):
 (execOp (ev N σ) ⟨dst,.slice t x none none none,ty,pos,af,g⟩).run P w= .ok (.value<|.slice (some ⟨b,0,none⟩) n n) w:=by
 unfold rq at he;cases hd:P.underlying t with
 | none=>rw [hd] at he; cases he
 | some d=>
   rw [hd] at he;cases d <;> first | (cases he; done) | skip
   rename_i m e;cases hi:P.info? e with
   | none=>simp [hi] at he
   | some j=>
     simp only [hi,lB,gJ,vk] at he;obtain ⟨rfl,rfl⟩:=he;simp [execOp,tu,si,qc,A,dV hd,sizeOf,jn hi,mE]
def Bo (P:bH) (t f:Nat):Option (Nat×Nat):=
 match P.underlying t with
 | some (.struct fs)=>(fs[f]?).map fun d=>(d.type,d.offset)
 | _=>none
theorem RW {t f C off n:Nat} {cs vs:List ag} (h:Bo P t f=some (C,off)) (A:fK P C=some (some n)) (I:ev N σ x= .agg cs.toArray) (G:(cs.drop off).take n=vs):
 (execOp (ev N σ) ⟨dst,.field t x f,ty,pos,af,g⟩).run P w= .ok (.value<|.agg vs.toArray) w:=by
 subst G;unfold Bo at h;cases hd:P.underlying t with
 | none=>rw [hd] at h; cases h
 | some d=>
   rw [hd] at h;cases d <;> first | (cases h; done) | skip
   rename_i fs;simp only [mZ] at h;obtain ⟨fd,E,he⟩:=h;cases he;unfold fK at A;cases hd2:P.underlying fd.type with
   | none=>rw [hd2] at A; cases A
   | some d2=>
     rw [hd2] at A;cases hi:P.info? fd.type with
     | none=>simp [Mi,hi] at hd2
     | some i=>
       rw [hi] at A;have J:cs.toArray.extract fd.offset (fd.offset+n)=((cs.drop fd.offset).take n).toArray:=by simp
       cases d2 <;> first
        | (cases A; done)
        | (simp only [lB,gJ] at A; subst A
           simp [execOp,L9,dV hd,E,I,asAgg,part,isAgg,dV hd2,sizeOf,jn hi])
end
end Go.Hb
end
section
namespace Go.Hb
def oT:di:=⟨0,0,false,0,0⟩
def ig (F:aE):di:=F.bw.getD (F.bw.length - 1) oT
noncomputable def jx (F:aE) (ln:Nat) (row:List Tx):Except Nat aE:=
 if row.getD 0 []=fA then (match k0 ln row with | .error e=> .error e | .ok x=> .ok {F with dp:=F.dp++ [x]})
 else if row.getD 0 []=eN then (match kS F.kind ln row with | .error e=> .error e | .ok x=> .ok {F with aliases:=F.aliases++ [x]})
 else match fV F.kind F.aliases (ig F) ln row with | .error e=> .error e | .ok x=> .ok {F with rules:=F.rules++ [x]}
noncomputable def iu (hd:List Tx) (eof:Nat):Nat→aE→List Rw→Except (Nat×Nat) (aE×List Rw)
 | 0,F,rows=> .ok (F,rows)
 | _+1,F,[]=> .error (eof,116)
 | n+1,F,(ln,row)::rows=>if row.take hd.length≠hd then .error (ln,116) else match jx F ln row with
   | .error e=> .error (ln,e)
   | .ok F'=>iu hd eof n F' rows
theorem zt {row:List Tx} {k:Tx} (h:row≠[]):row.take [k].length= [k]↔row.getD 0 []=k:=by
 cases row with
 | nil=>exact absurd rfl h
 | cons a l=>simp
theorem zu {row:List Tx} {k j:Tx} :row.take [k,j].length= [k,j]↔2≤row.length∧row.getD 0 []=k∧row.getD 1 []=j:=by
 match row with
 | []=>simp
 | [a]=>simp
 | a::b::l=>simp
section
variable {eof:Nat}
theorem Sz:∀ (n:Nat) (F:aE) (rows:List Rw),iu [fA] eof n F rows=match group [fA] k0 eof n rows with | .error e=> .error e | .ok r=> .ok ({F with dp:=F.dp++r.1},r.2):=by
 intro n
 induction n with
 | zero=>intro F rows; simp [iu,group]
 | succ n E=>
   intro F rows;cases rows with
   | nil=>simp [iu,group]
   | cons q rows=>
     obtain ⟨ln,row⟩:=q;simp only [iu,group];by_cases A:row.take [fA].length≠[fA]
     · rw [if_pos A,if_pos A]
     · rw [if_neg A,if_neg A];have C:row.getD 0 []=fA:=by
        refine (zt ?_).1<|jG.1 A;rintro rfl; exact A<|by simp
       unfold jx;rw [if_pos C];cases k0 ln row with
       | error e=>rfl
       | ok x=>
         simp only;rw [E];cases group [fA] k0 eof n rows with
         | error e=>rfl
         | ok r=>simp only [eX]; rfl
theorem Sy:∀ (n:Nat) (F:aE) (rows:List Rw),iu [eN] eof n F rows=match group [eN] (kS F.kind) eof n rows with | .error e=> .error e | .ok r=> .ok ({F with aliases:=F.aliases++r.1},r.2):=by
 intro n
 induction n with
 | zero=>intro F rows; simp [iu,group]
 | succ n E=>
   intro F rows;cases rows with
   | nil=>simp [iu,group]
   | cons q rows=>
     obtain ⟨ln,row⟩:=q;simp only [iu,group];by_cases A:row.take [eN].length≠[eN]
     · rw [if_pos A,if_pos A]
     · rw [if_neg A,if_neg A];have C:row.getD 0 []=eN:=by
        refine (zt ?_).1<|jG.1 A;rintro rfl; exact A<|by simp
       unfold jx;rw [if_neg (by rw [C]; decide),if_pos C];cases kS F.kind ln row with
       | error e=>rfl
       | ok x=>
         simp only;rw [E];cases group [eN] (kS F.kind) eof n rows with
         | error e=>rfl
         | ok r=>simp only [eX]; rfl
theorem SA {A h1:Tx} (hk:A≠fA) (G:A≠eN):∀ (n:Nat) (F:aE) (rows:List Rw),iu [A,h1] eof n F rows=match group [A,h1] (fV F.kind F.aliases<|ig F) eof n rows with | .error e=> .error e | .ok r=> .ok ({F with rules:=F.rules++r.1},r.2):=by
 intro n
 induction n with
 | zero=>intro F rows; simp [iu,group]
 | succ n I=>
   intro F rows;cases rows with
   | nil=>simp [iu,group]
   | cons q rows=>
     obtain ⟨ln,row⟩:=q;simp only [iu,group];by_cases C:row.take [A,h1].length≠[A,h1]
     · rw [if_pos C,if_pos C]
     · rw [if_neg C,if_neg C];have E:row.getD 0 []=A:=(zu.1<|jG.1 C).2.1;unfold jx;rw [if_neg (by rw [E]; exact hk),if_neg (by rw [E]; exact G)];cases fV F.kind F.aliases (ig F) ln row with
       | error e=>rfl
       | ok x=>
         simp only;rw [I];show (match group [A,h1] (fV F.kind F.aliases<|ig F) eof n rows with | .error e=>_ | .ok r=>_)=_;cases group [A,h1] (fV F.kind F.aliases<|ig F) eof n rows with
         | error e=>rfl
         | ok r=>simp only [eX]; rfl
end
section
variable {hd:List Tx} {eof n ln:Nat} {F:aE} {row:List Tx} {rows:List Rw} {T:Except (Nat×Nat) (aE×List Rw)}
theorem Sw (h:iu hd eof n F []=T) (hn:0 < n):T= .error (eof,116):=by
 obtain ⟨m,rfl⟩:∃ m,n=m+1:=⟨n - 1,ab⟩
 exact h.symm
theorem BI (h:iu hd eof n F ((ln,row)::rows)=T) (hn:0 < n) (A:row.take hd.length≠hd):T= .error (ln,116):=by
 obtain ⟨m,rfl⟩:∃ m,n=m+1:=⟨n - 1,ab⟩
 rw [← h,iu,if_pos A]
theorem Su {e:Nat} (h:iu hd eof n F ((ln,row)::rows)=T) (hn:0 < n) (A:row.take hd.length=hd) (he:jx F ln row= .error e):T= .error (ln,e):=by
 obtain ⟨m,rfl⟩:∃ m,n=m+1:=⟨n - 1,ab⟩
 rw [← h,iu,if_neg (fun h2=>h2 A),he]
theorem Sx {F':aE} (h:iu hd eof n F ((ln,row)::rows)=T) (hn:0 < n) (A:row.take hd.length=hd) (he:jx F ln row= .ok F'):iu hd eof (n - 1) F' rows=T:=by
 obtain ⟨m,rfl⟩:∃ m,n=m+1:=⟨n - 1,ab⟩
 rw [← h,iu,if_neg (fun h2=>h2 A),he]; rfl
theorem Sv (h:iu hd eof 0 F rows=T):T= .ok (F,rows):=h.symm
end
def kU (head:List Tx):List Tx:=if head.length=4 then [head.getD 0 [],head.getD 1 []] else [head.getD 0 []]
theorem H6 {head:List Tx} (h:head.length≠4):kU head= [head.getD 0 []]:=if_neg h
theorem H7 {head:List Tx} (h:head.length=4):kU head= [head.getD 0 [],head.getD 1 []]:=if_pos h
theorem Td {head row:List Tx} (h:row.getD 0 []≠head.getD 0 []):row.take (kU head).length≠kU head:=by
 unfold kU;split
 · exact fun h2=>h (zu.1 h2).2.1
 · intro h2;cases row with
   | nil=>simp at h2
   | cons a l=>exact h<|(zt<|by simp).1 h2
theorem H9 {head row:List Tx} (h4:head.length=4) (h:row.length < 2∨row.getD 1 []≠head.getD 1 []):row.take (kU head).length≠kU head:=by
 rw [H7 h4];intro h2;have :=zu.1 h2;rcases h with h | h
 · omega
 · exact h this.2.2
theorem Ia {head row:List Tx} (A:row.getD 0 []=head.getD 0 []) (C:row≠[]) (h1:head.length=4→2≤row.length∧row.getD 1 []=head.getD 1 []):row.take (kU head).length=kU head:=by
 unfold kU;split
 · rename_i h4; exact zu.2 ⟨(h1 h4).1,A,(h1 h4).2⟩
 · exact (zt C).2 A
def qQ (k:Tx):Int:=if k∈eh then (eh.idxOf k:Nat) else -1
theorem uz {k:Tx} :(0≤qQ k)↔k∈eh:=by
 unfold qQ; split
 · rename_i h; exact ⟨fun _=>h,fun _=>by omega⟩
 · rename_i h; exact ⟨fun h2=>by omega,fun h2=>absurd h2 h⟩
end Go.Hb
end
namespace Go.Hb
def ph (ps:List Tx) (w:Tx):Bool:=decide (ps.length≤w.length) && (gT ps.length).all fun i=>db (ps.getD i [])<|w.getD i 0
def rE (ps:List Tx) (w:Tx):Bool:=decide (ps.length≤w.length) && ph ps (w.drop<|w.length - ps.length)
noncomputable def ib (r:cJ) (w:Tx):Bool:=
 decide ((dj r.cond).2=0∧r.strip.length < w.length) &&
  (if r.kind=2 then decide (w.drop (w.length - r.strip.length)=r.strip) && rE (dj r.cond).1 w
   else if r.kind=1 then decide (w.take r.strip.length=r.strip) && ph (dj r.cond).1 w else false)
noncomputable def eE (r:cJ) (w:Tx):Option Tx:=if ib r w=true then some (if r.kind=2 then w.take (w.length - r.strip.length)++r.add else r.add++w.drop r.strip.length) else none
def dF:cJ:=⟨0,0,false,[],[],[],[],0⟩
def bh (F:aE) (fs:List Nat) (kind:Nat):List Nat:=(gT F.rules.length).filter fun i=>decide ((F.rules.getD i dF).kind=kind∧(F.rules.getD i dF).flag∈fs)
def flagsOf (xs:List bp) (e:Int):List Nat:=if 0≤e∧e < xs.length then (xs.getD e.toNat ([],[])).2 else []
def bV (F:aE) (r:Int):List Nat:=if 0≤r∧r < F.rules.length then (F.rules.getD r.toNat dF).next else []
def sV (F:aE) (xs:List bp) (e:Int) (k:Nat):Bool:=decide (F.sp.getD k 0≠0∧F.sp.getD k 0∈flagsOf xs e)
def oX (F:aE) (r:Int):Bool:=decide (0≤r∧r < F.rules.length) && !decide (F.sp.getD 0 0≠0∧F.sp.getD 0 0∈bV F r)
structure bE where
 eI:Tx
 eu:Nat
 fst:Int
 snd:Int
 pre:Int
def l5 (F:aE) (n:Int):Bool:=decide (n= -1) || (F.rules.getD n.toNat dF).eB
def fu (F:aE) (xs:List bp) (e:Nat) (f s p:Int):Bool:=
 if f= -1 then decide (p≠ -1) || !sV F xs e 0
 else if oX F (if s= -1 then f else s)=false then false
 else decide (p= -1) || (l5 F f && l5 F s && l5 F p)
def nY (F:aE) (xs:List bp) (e:Nat) (word:Tx) (f s:Int):List bE:=if fu F xs e f s (-1)=true then [⟨word,e,f,s,-1⟩] else []
noncomputable def ni (F:aE) (xs:List bp) (e:Nat) (word:Tx) (f s:Int) (p:Nat):Option bE:=if fu F xs e f s p=true then (eE (F.rules.getD p dF) word).map (fun v=>(⟨v,e,f,s,(p:Int)⟩:bE)) else none
noncomputable def iq (F:aE) (xs:List bp) (e:Nat) (word:Tx) (f s:Int):List bE:=nY F xs e word f s++(bh F (flagsOf xs e) 1).filterMap (ni F xs e word f s)
noncomputable def nI (F:aE) (xs:List bp) (e:Nat) (w:Tx) (s:Int) (z:Nat):List bE:=match eE (F.rules.getD z dF) w with
 | none=> []
 | some v=>iq F xs e v s z
noncomputable def lN (F:aE) (xs:List bp) (e:Nat) (s:Nat):List bE:=match eE (F.rules.getD s dF) (xs.getD e ([],[])).1 with
 | none=> []
 | some w=>iq F xs e w s (-1)++(bh F (bV F s) 2).flatMap (nI F xs e w s)
noncomputable def jX (F:aE) (xs:List bp) (e:Nat):List bE:=
 iq F xs e (xs.getD e ([],[])).1 (-1) (-1)++(bh F (flagsOf xs e) 2).flatMap (lN F xs e)
def kh (q:cJ):Prop :=q.strip.length≤32∧q.add.length≤32∧q.cond.length≤4800
structure qt (F:aE):Prop where
 part:∀ (i:Nat) r,F.rules[i]? =some r→∃ c∈F.bw,c.first≤i∧i < c.first+c.count∧r.flag=c.flag∧r.kind=c.kind
 vD:∀ c∈F.bw,c.first+c.count≤F.rules.length∧∀ i,c.first≤i→i < c.first+c.count→∃ r,F.rules[i]? =some r∧r.flag=c.flag∧r.kind=c.kind
 uniq:(F.bw.map (·.flag)).Nodup
theorem HR {α:Type} {hd:List Tx} {rd:Nat→List Tx→Except Nat α} {eof:Nat} :∀ (n:Nat) (rows:List Rw) (r:List α×List Rw),group hd rd eof n rows= .ok r→∀ x∈r.1,∃ ln row,rd ln row= .ok x:=by
 intro n
 induction n with
 | zero=>intro rows r h; simp only [group,tk] at h; subst h; intro x A; cases A
 | succ n C=>
   intro rows r h;cases rows with
   | nil=>simp [group] at h
   | cons q rows=>
     obtain ⟨ln,row⟩:=q;simp only [group] at h;split at h
     · cases h
     · cases hr:rd ln row with
       | error e=>rw [hr] at h; cases h
       | ok y=>
         rw [hr] at h;simp only at h;cases hg:group hd rd eof n rows with
         | error e=>rw [hg] at h; cases h
         | ok E=>
           rw [hg] at h;simp only [tk] at h;subst h;intro x A;rcases fi.1 A with A | A
           · exact ⟨ln,row,by rw [A]; exact hr⟩
           · exact C rows E hg x A
theorem Ie {eof ln:Nat} {F F':aE} {hs:List Tx} {rows rows':List Rw} {row:List Tx} (A:ca eof F hs rows ln row= .ok (F',rows')):
 (F'.aliases=F.aliases∧F'.bw=F.bw∧F'.rules=F.rules)∨
 (F'.bw=F.bw∧F'.rules=F.rules∧∃ l,F'.aliases=F.aliases++l∧∀ x∈l,∃ kd s,lj kd s= .ok x)∨
 (F'.aliases=F.aliases∧∃ c l,F'.bw=F.bw++ [c]∧F'.rules=F.rules++l∧c.first=F.rules.length∧c.count=l.length∧eM F c.flag=false∧∀ x∈l,∃ ln row,fV F.kind F.aliases c ln row= .ok x):=by
 unfold ca at A;split at A
 · unfold kp at A; split at A <;> cases A; exact .inl ⟨rfl,rfl,rfl⟩
 split at A
 · unfold kI at A;split at A
   · cases A
   · split at A <;> cases A; exact .inl ⟨rfl,rfl,rfl⟩
 split at A
 · unfold mP at A; split at A <;> cases A; exact .inl ⟨rfl,rfl,rfl⟩
 split at A
 · unfold mT at A; split at A <;> cases A; exact .inl ⟨rfl,rfl,rfl⟩
 split at A
 · unfold kX at A;split at A
   · cases A
   · split at A <;> cases A; exact .inl ⟨rfl,rfl,rfl⟩
 split at A
 · unfold ko at A;split at A
   · cases A
   · split at A <;> cases A; exact .inl ⟨rfl,rfl,rfl⟩
 split at A
 · unfold j9 at A;split at A
   · cases A
   · split at A
     · cases A
     · split at A
       · cases A
       · rename_i r E;cases A;refine .inr<|.inl ⟨aa,aa,r.1,aa,fun x A=> ?_⟩;obtain ⟨ln,row,h⟩:=HR _ _ _ E x A;unfold kS at h;split at h
         · cases h
         · exact ⟨_,_,h⟩
 · unfold hU at A;split at A
   · cases A
   · rename_i x C;split at A
     · cases A
     · split at A
       · cases A
       · split at A
         · cases A
         · split at A
           · cases A
           · rename_i r E;cases A;refine .inr<|.inr ⟨aa,_,r.1,aa,aa,aa,(vO _ _ _ E).2.1.symm,?_,fun x A=>HR _ _ _ E x A⟩;unfold ic at C;split at C
             · cases C
             · split at C
               · cases C
               · rename_i h; cases C; simpa using h
theorem Au {Q:aE→Prop} (C:Q iJ) (G:∀ (eof ln:Nat) (F F':aE) (hs:List Tx) (rows rows':List Rw) (row:List Tx),Q F→ca eof F hs rows ln row= .ok (F',rows')→Q F') {s:Tx} {F:aE} (h:fH s= .ok F):Q F:=by
 unfold fH at h;split at h
 · cases h
 · split at h
   · cases h
   · rename_i f E;split at h
     · cases h
     · cases h;have key:∀ (k:Nat) (F F':aE) (hs:List Tx) (rows:List Rw) (eof:Nat),Q F→ij eof k F hs rows= .ok F'→Q F':=by
        intro k
        induction k with
        | zero=>intro F F' hs rows eof h A; rw [ij] at A; split at A <;> cases A; exact h
        | succ k J=>
          intro F F' hs rows eof h A;cases rows with
          | nil=>simp only [ij,tk] at A; exact A ▸ h
          | cons q rows=>
            rw [ij] at A;split at A
            · cases A
            · split at A
              · cases A
              · split at A
                · cases A
                · split at A
                  · cases A
                  · rename_i r I;exact J _ _ _ _ _ (G _ _ _ _ _ _ _ _ h I) A
       exact key _ _ _ _ _ _ C E
def lF (l:List Nat):Prop :=l.Pairwise (· < ·)∧0∉l
theorem R7 {kind:Nat} {s:Tx} (A:(ed kind s).2=0):lF (ed kind s).1:=by
 unfold ed at A ⊢;by_cases h1:s= []
 · rw [if_pos h1] at A; cases A
 · rw [if_neg h1] at A ⊢;by_cases h2:∃ x∈ea kind s,eZ kind x=0
   · rw [if_pos h2] at A; cases A
   · rw [if_neg h2] at A ⊢;by_cases h3:64 < (ea kind s).length
     · rw [if_pos h3] at A; cases A
     · rw [if_neg h3];refine ⟨CC _,fun h4=> ?_⟩;rw [CB,je] at h4;exact h2 h4
theorem HB {kind:Nat} {s:Tx} {l:List Nat} (h:lj kind s= .ok l):lF l:=by
 unfold lj at h;split at h
 · cases h
 · rename_i A;cases h;exact R7<|jG.1 A
def tH (F:aE):Prop :=(∀ l∈F.aliases,lF l)∧∀ q∈F.rules,lF q.next∧kh q
theorem Hc {w:Tx} (h:¬hZ w≠0):w.length≤32:=by
 unfold hZ at h;split at h
 · exact absurd aw h
 · split at h
   · exact absurd aw h
   · omega
theorem Wd {b:Bool} {fd p:Tx} (h:eG b fd= .ok p):p.length≤32:=by
 unfold eG at h;split at h
 · cases h; exact gY _
 · split at h
   · cases h
   · split at h
     · cases h
     · split at h
       · cases h
       · rename_i A; cases h; exact Hc A
theorem NG {r:lZ} {p:Tx} (h:j8 r= .ok p):p.length≤32:=by
 unfold j8 at h;split at h
 · cases h
 · split at h
   · cases h; exact gY _
   · split at h
     · cases h
     · rename_i A; cases h; exact Hc A
theorem FX (s:Tx):(dj s).1.length≤16:=by
 unfold dj;split
 · simp
 · split
   · simp
   · split
     · simp
     · split
       · simp
       · simp only; omega
theorem Xu:∀ {ps:List Tx},ps.length≤16→(mQ ps).length≤4800:=by
 have key:∀ ps:List Tx,(ps.flatMap fun t=>j6<|db t).length≤ps.length*300:=by
  intro ps
  induction ps with
  | nil=>exact gY _
  | cons t ps A=>
    have :=De<|db t;rw [kt,bG,cC]; omega
 intro ps h;unfold mQ;split
 · simp
 · have :=key ps; omega
theorem PT {row:List Tx} {c:Tx} (h:lg row= .ok c):c.length≤4800:=by
 unfold lg at h;split at h
 · split at h
   · cases h
   · split at h
     · cases h
     · cases h; exact Xu<|FX _
 · cases h; simp
theorem vN:lF []:=⟨.nil,xz⟩
theorem Hn {kind:Nat} {al:List (List Nat)} {s:Tx} {l:List Nat} (A:∀ l∈al,lF l) (h:gx kind al s= .ok l):lF l:=by
 unfold gx at h;split at h
 · exact HB h
 · split at h
   · cases h
   · split at h
     · cases h
     · cases h;rename_i n _ _;rw [cH];cases hg:al[n - 1]? with
       | none=>exact vN
       | some x=>exact A x<|gB hg
theorem Da {kind ln:Nat} {al:List (List Nat)} {c:di} {row:List Tx} {q:cJ} (E:∀ l∈al,lF l) (h:fV kind al c ln row= .ok q):(lF q.next∧kh q)∧q.flag=c.flag∧q.kind=c.kind∧q.eB=c.eB:=by
 unfold fV at h;split at h
 · cases h
 · split at h
   · cases h
   · rename_i hp;split at h
     · cases h
     · rename_i C;split at h
       · cases h
       · rename_i nx A;split at h
         · cases h
         · rename_i G;cases h;refine ⟨⟨?_,Wd hp,NG C,PT G⟩,aa,aa,aa⟩;unfold ll at A;split at A
           · split at A
             · cases A
             · exact Hn E A
           · cases A; exact vN
theorem Bp {cs:List di} {x:Nat} (h:(eb cs x).isSome=false):∀ c∈cs,c.flag≠x:=fun c A C=>by
 unfold eb at h;have h1:cs.find? (fun c=>decide (c.flag=x))=none:=by
  cases h2:cs.find? (fun c=>decide (c.flag=x)) with
  | none=>rfl
  | some y=>rw [h2] at h; cases h
 have :=List.find?_eq_none.1 h1 c A;simp [C] at this
theorem As {s:Tx} {F:aE} (h:fH s= .ok F):tH F∧qt F:=by
 refine Au (Q:=fun F=>tH F∧qt F) ⟨⟨fun l Z=>(by cases Z),fun l Z=>by cases Z⟩,⟨fun i r h=>(by cases h),fun c h=>(by cases h),.nil⟩⟩ ?_ h;rintro eof ln F F' hs rows rows' row ⟨E,G⟩ A;refine ⟨?_,?_⟩
 · rcases Ie A with ⟨h1,_,h3⟩ | ⟨_,h2,l,h3,h4⟩ | ⟨h1,c,l,_,h3,_,_,_,h4⟩
   · exact ⟨h1 ▸ E.1,h3 ▸ E.2⟩
   · refine ⟨fun x A=> ?_,h2 ▸ E.2⟩;rw [h3] at A;rcases jT.1 A with A | A
     · exact E.1 x A
     · obtain ⟨_,_,h⟩:=h4 x A; exact HB h
   · refine ⟨h1 ▸ E.1,fun x A=> ?_⟩;rw [h3] at A;rcases jT.1 A with A | A
     · exact E.2 x A
     · obtain ⟨_,_,h⟩:=h4 x A; exact (Da E.1 h).1
 · rcases Ie A with ⟨_,h2,h3⟩ | ⟨h2,h3,_⟩ | ⟨_,c,l,h2,h3,h4,h5,Y,ag⟩
   · exact ⟨by rw [h2,h3]; exact G.part,by rw [h2,h3]; exact G.vD,by rw [h2]; exact G.uniq⟩
   · exact ⟨by rw [h2,h3]; exact G.part,by rw [h2,h3]; exact G.vD,by rw [h2]; exact G.uniq⟩
   · have ac:∀ i,F.rules.length≤i→i < F.rules.length+l.length→∃ r,F'.rules[i]? =some r∧r.flag=c.flag∧r.kind=c.kind:=fun i I O=>by
      have C:i - F.rules.length < l.length:=ab;refine ⟨l[i - F.rules.length],?_,?_⟩
      · rw [h3,nN I,bY C]
      · obtain ⟨_,_,h⟩:=ag _ (Eu C); exact ⟨(Da E.1 h).2.1,(Da E.1 h).2.2.1⟩
     refine ⟨fun i r I=> ?_,fun d hd=> ?_,?_⟩
     · by_cases O:i < F.rules.length
       · rw [h3,mX O] at I;obtain ⟨d,hd,C⟩:=G.part i r I;exact ⟨d,by rw [h2]; exact Ag _ hd,C⟩
       · have C:i < F.rules.length+l.length:=by
          have :=(ff.1 I).1; rw [h3,bG] at this; exact this
         obtain ⟨aj,J,V⟩:=ac i ab C;rw [I] at J; cases J;exact ⟨c,by rw [h2]; exact u7 _ (iS.2 aa),ab,ab,V⟩
     · rw [h2] at hd;rcases jT.1 hd with hd | hd
       · obtain ⟨I,O⟩:=G.vD d hd;refine ⟨by rw [h3,bG]; omega,fun i C J=> ?_⟩;obtain ⟨r,V,ae⟩:=O i C J;exact ⟨r,by rw [h3,mX ab]; exact V,ae⟩
       · obtain rfl :=iS.1 hd;refine ⟨by rw [h3,bG]; omega,fun i C J=>ac i ab ab⟩
     · rw [h2,gS,xy];refine ⟨G.uniq,by simp,fun a ah b ai=> ?_⟩;obtain ⟨d,hd,rfl⟩:=je.1 ah;obtain rfl :b=c.flag:=by simpa using ai
       unfold eM at Y;rw [Bool.or_eq_false_iff] at Y;exact Bp Y.2 d hd
theorem Ra {F:aE} {row:List Tx} {x:bp} (A:tH F) (h:gh F row= .ok x):lF x.2:=by
 unfold gh at h;split at h
 · cases h
 · split at h
   · cases h
   · split at h
     · cases h
     · split at h
       · cases h
       · split at h
         · cases h; exact vN
         · split at h
           · cases h
           · rename_i set hs;split at h
             · cases h; exact Hn A.1 hs
             · cases h
theorem Ri {F:aE} (E:tH F) {eof:Nat} :∀ {n:Nat} {rows:List Rw} {r:List bp},fk F eof n rows= .ok r→∀ x∈r,lF x.2:=by
 intro n
 induction n with
 | zero=>
   intro rows r h;cases rows with
   | nil=>rw [fk] at h; cases h; intro x A; cases A
   | cons q rows=>rw [fk] at h; cases h
 | succ n G=>
   intro rows r h;cases rows with
   | nil=>rw [fk] at h; cases h
   | cons q rows=>
     rw [fk] at h;split at h
     · cases h
     · rename_i x A;split at h
       · cases h
       · rename_i h2;cases h;intro y C;rcases fi.1 C with rfl | C
         · exact Ra E A
         · exact G h2 y C
theorem QU {F:aE} (A:tH F) {t:Tx} {xs:List bp} (h:fD F t= .ok xs):∀ x∈xs,lF x.2:=by
 unfold fD at h;split at h
 · cases h
 · split at h
   · cases h
   · split at h
     · cases h
     · split at h
       · cases h
       · exact Ri A h
theorem Rc {F:aE} {row:List Tx} {x:bp} (h:gh F row= .ok x):1≤x.1.length:=by
 unfold gh at h;split at h
 · cases h
 · split at h
   · cases h
   · split at h
     · cases h
     · rename_i C;have h1:1≤(bD<|row.getD 0 []).1.length:=by
        rcases Nat.eq_zero_or_pos (bD<|row.getD 0 []).1.length with A | A
        · exact absurd (Or.inr<|fY A) C
        · exact A
       split at h
       · cases h
       · split at h
         · cases h; exact h1
         · split at h
           · cases h
           · split at h
             · cases h; exact h1
             · cases h
theorem Rl {F:aE} {eof:Nat} :∀ {n:Nat} {rows:List Rw} {r:List bp},fk F eof n rows= .ok r→∀ x∈r,1≤x.1.length:=by
 intro n
 induction n with
 | zero=>
   intro rows r h;cases rows with
   | nil=>rw [fk] at h; cases h; intro x A; cases A
   | cons q rows=>rw [fk] at h; cases h
 | succ n E=>
   intro rows r h;cases rows with
   | nil=>rw [fk] at h; cases h
   | cons q rows=>
     rw [fk] at h;split at h
     · cases h
     · rename_i x A;split at h
       · cases h
       · rename_i h2;cases h;intro y C;rcases fi.1 C with rfl | C
         · exact Rc A
         · exact E h2 y C
theorem QX {F:aE} {t:Tx} {xs:List bp} (h:fD F t= .ok xs):∀ x∈xs,1≤x.1.length:=by
 unfold fD at h;split at h
 · cases h
 · split at h
   · cases h
   · split at h
     · cases h
     · split at h
       · cases h
       · exact Rl h
theorem oq {F:aE} {fs:List Nat} {k i:Nat} :i∈bh F fs k↔i < F.rules.length∧(F.rules.getD i dF).kind=k∧(F.rules.getD i dF).flag∈fs:=by
 unfold bh; simp
theorem Ct (F:aE) (fs:List Nat) (k:Nat):(bh F fs k).Pairwise (· < ·):=ZT _ M0
theorem ur (F:aE) (fs:List Nat) (k:Nat):(bh F fs k).length≤F.rules.length:=by
 unfold bh; have :=qg (fun i=>decide ((F.rules.getD i dF).kind=k∧(F.rules.getD i dF).flag∈fs)) (gT F.rules.length); simpa using this
def hY (F:aE) (k f:Nat):List Nat:=match eb F.bw f with
 | some c=>if c.kind=k then (gT c.count).map (c.first+ ·) else []
 | none=> []
theorem G6 {cs:List di} {x:Nat} {c:di} (h:eb cs x=some c):c∈cs∧c.flag=x:=⟨List.mem_of_find?_eq_some h,by simpa using List.find?_some h⟩
theorem RP:∀ {cs:List di},(cs.map (·.flag)).Nodup→∀ c∈cs,eb cs c.flag=some c:=by
 intro cs
 induction cs with
 | nil=>intro _ c h; cases h
 | cons d cs E=>
   intro h c A;rw [pF,Ew] at h;unfold eb;rw [List.find?_cons];rcases fi.1 A with rfl | A
   · simp
   · have C:¬d.flag=c.flag:=fun h2=>h.1<|je.2 ⟨c,A,h2.symm⟩;rw [decide_eq_false C];exact E h.2 c A
theorem yJ {F:aE} (A:qt F) {k f i:Nat} :i∈hY F k f↔i < F.rules.length∧(F.rules.getD i dF).kind=k∧(F.rules.getD i dF).flag=f:=by
 unfold hY;constructor
 · intro h;split at h
   · rename_i c C;split at h
     · rename_i hk;obtain ⟨j,O,rfl⟩:=je.1 h;rw [qi] at O;have h1:=G6 C;obtain ⟨h2,h3⟩:=A.vD c h1.1;obtain ⟨r,h4,h5,E⟩:=h3 (c.first+j) ab ab;refine ⟨ab,?_⟩;rw [cH,h4];exact ⟨E.trans hk,h5.trans h1.2⟩
     · cases h
   · cases h
 · rintro ⟨h1,h2,h3⟩;have h4:F.rules[i]? =some (F.rules.getD i dF):=by rw [cH,bY h1]; rfl
   obtain ⟨c,C,h5,E,I,J⟩:=A.part i _ h4;have G:=RP A.uniq c C;rw [← I,h3] at G;rw [G];simp only;rw [if_pos (J.symm.trans h2)];exact je.2 ⟨i - c.first,qi.2 ab,ab⟩
theorem Pp (F:aE) (k f:Nat):(hY F k f).Nodup:=by
 unfold hY;split
 · split
   · rw [List.Nodup,Ex];exact ZU (fun h=>by omega) M0
   · exact .nil
 · exact .nil
theorem Jc {F:aE} (A:qt F) {k:Nat} :∀ {fs:List Nat},fs.Pairwise (· < ·)→(fs.flatMap<|hY F k).Nodup∧∀ i,i∈fs.flatMap (hY F k)↔i∈bh F fs k:=by
 intro fs h;refine ⟨?_,fun i=> ?_⟩
 · induction fs with
   | nil=>exact .nil
   | cons f fs O=>
     rw [qk] at h;rw [kt,xy];refine ⟨Pp F k f,O h.2,fun a E b C G=> ?_⟩;subst G;obtain ⟨g,J,C⟩:=pG.1 C;have h1:=(yJ A).1 E;have h2:=(yJ A).1 C;have :=h.1 g J;omega
 · rw [pG,oq];constructor
   · rintro ⟨f,I,hi⟩;have h1:=(yJ A).1 hi;exact ⟨h1.1,h1.2.1,h1.2.2 ▸ I⟩
   · rintro ⟨h1,h2,h3⟩;exact ⟨_,h3,(yJ A).2 ⟨h1,h2,aa⟩⟩
theorem XI {F:aE} (C:qt F) {fs:List Nat} (h:fs.Pairwise (· < ·)) (k:Nat):((fs.flatMap<|hY F k).map fun i:Nat=>(i:Int)).mergeSort (fun x y=>decide (x≤y))=(bh F fs k).map fun i:Nat=>(i:Int):=by
 obtain ⟨h1,h2⟩:=Jc C (k:=k) h;have hn:=Ct F fs k;have hp:=(List.mergeSort_perm ((fs.flatMap<|hY F k).map fun i:Nat=>(i:Int)) fun x y=>decide (x≤y)).trans<|((List.perm_ext_iff_of_nodup h1<|hn.imp fun h=>by omega).2 h2).map _;refine List.Perm.eq_of_pairwise (le:=fun x y:Int=>decide (x≤y)=true) ?_ (List.pairwise_mergeSort ?_ ?_ _) ?_ hp
 · intro a b _ _ h A; have :=of_decide_eq_true h; have :=of_decide_eq_true A; omega
 · intro a b c h A; have :=of_decide_eq_true h; have :=of_decide_eq_true A; exact decide_eq_true ab
 · intro a b; simp only [Bool.or_eq_true,decide_eq_true_eq]; omega
 · rw [Ex]; exact hn.imp fun h=>decide_eq_true ab
def jw (l:List bE):Nat:=(l.map fun d=>d.eI.length).sum
theorem Fj (a b:List bE):jw (a++b)=jw a+jw b:=by unfold jw; rw [gS,List.sum_append]
theorem Fk (d:bE):jw [d]=d.eI.length:=by simp [jw]
def km (most limit:Int) (a:List bE):Bool:=decide (most≤(a.length:Int)∨limit < (jw a:Nat))
def sW (most limit:Int) (a:List bE) (d:bE):List bE:=if km most limit a=true then a else a++ [d]
def om (most limit:Int) (a L:List bE):List bE:=L.foldl (sW most limit) a
theorem T8 (most limit:Int) (a L M:List bE):om most limit a (L++M)=om most limit (om most limit a L) M:=z8
theorem yC {most limit:Int} {a:List bE} (h:km most limit a=true):∀ L,om most limit a L=a:=by
 intro L
 induction L with
 | nil=>rfl
 | cons d L A=>rw [om,sy,sW,if_pos h]; exact A
theorem T9 {most limit:Int} (c:Nat) (Y:most*c≤limit) (hm:0≤most):∀ (L a:List bE),(∀ d∈L,d.eI.length≤c)→a.length≤most→jw a≤a.length*c→om most limit a L=a++L.take (most.toNat - a.length):=by
 intro L
 induction L with
 | nil=>intro a _ _ _; simp [om]
 | cons d L G=>
   intro a A I J;by_cases h:(a.length:Int)=most
   · rw [yC (decide_eq_true<|.inl ab),show most.toNat - a.length=0 by omega]; simp
   · have O:a.length*c≤(most.toNat)*c:=qo c ab;have V:((most.toNat*c:Nat):Int)=most*c:=by rw [Int.natCast_mul,Int.toNat_of_nonneg hm]
     have C:km most limit a=false :=decide_eq_false fun h2=>by rcases h2 with h2 | h2 <;> omega
     rw [om,sy,sW,if_neg (by rw [C]; exact dM)];have :=G (a++ [d]) (fun x E=>A x<|nO _ E) (by rw [bG,fg]; omega) (by
      rw [Fj,Fk,bG,fg,Nat.add_mul];have :=A d (mY ..); omega)
     rw [om] at this;rw [this,bG,fg,show most.toNat - a.length=(most.toNat - (a.length+1))+1 by omega,qm,eX]; rfl
theorem N1 {r:cJ} {w v:Tx} (h:eE r w=some v):r.strip.length < w.length∧v=(if r.kind=2 then w.take (w.length - r.strip.length)++r.add else r.add++w.drop r.strip.length):=by
 unfold eE at h;split at h
 · rename_i A;unfold ib at A;rw [il,decide_eq_true_eq] at A;cases h;exact ⟨A.1.2,aa⟩
 · cases h
theorem sI {r:cJ} {w v:Tx} (A:r.add.length≤32) (h:eE r w=some v):1≤v.length∧v.length≤w.length+32:=by
 obtain ⟨h1,rfl⟩:=N1 h;split
 · rw [bG,dJ]; omega
 · rw [bG,fP]; omega
theorem C8 {F:aE} (A:∀ q∈F.rules,kh q) (i:Nat):kh (F.rules.getD i dF):=by
 rw [cH];cases h:F.rules[i]? with
 | none=>exact ⟨gY _,gY _,gY _⟩
 | some q=>exact A q<|gB h
theorem AO {F:aE} (A:∀ q∈F.rules,kh q) {xs:List bp} {e:Nat} {word:Tx} {f s:Int} (h1:1≤word.length):∀ d∈iq F xs e word f s,1≤d.eI.length∧d.eI.length≤word.length+32∧d.eu=e∧d.fst=f∧d.snd=s:=by
 intro d hd;unfold iq at hd;rcases jT.1 hd with hd | hd
 · unfold nY at hd;split at hd
   · obtain rfl :=iS.1 hd;exact ⟨h1,Nat.le_add_right _ _,aa,aa,aa⟩
   · cases hd
 · obtain ⟨p,_,hp⟩:=List.mem_filterMap.1 hd;unfold ni at hp;split at hp
   · obtain ⟨v,C,rfl⟩:=mZ.1 hp;have :=sI (C8 A p).2.1 C;exact ⟨this.1,this.2,aa,aa,aa⟩
   · cases hp
theorem QN {F:aE} (A:∀ q∈F.rules,kh q) {xs:List bp} {e:Nat} (h1:1≤(xs.getD e ([],[])).1.length):∀ d∈jX F xs e,1≤d.eI.length∧d.eI.length≤(xs.getD e ([],[])).1.length +96∧d.eu=e:=by
 intro d hd;unfold jX at hd;rcases jT.1 hd with hd | hd
 · have :=AO A h1 d hd; exact ⟨this.1,ab,this.2.2.1⟩
 · obtain ⟨s,_,hd⟩:=pG.1 hd;unfold lN at hd;split at hd
   · cases hd
   · rename_i w hw;have C:=sI (C8 A s).2.1 hw;rcases jT.1 hd with hd | hd
     · have :=AO A C.1 d hd; exact ⟨this.1,ab,this.2.2.1⟩
     · obtain ⟨z,_,hd⟩:=pG.1 hd;unfold nI at hd;split at hd
       · cases hd
       · rename_i v G;have E:=sI (C8 A z).2.1 G;have :=AO A E.1 d hd; exact ⟨this.1,ab,this.2.2.1⟩
def nD (n:Nat):List Int:=(-1)::(gT n).map fun i:Nat=>(i:Int)
noncomputable def gQ (F:aE) (L:List Nat) (n:Int) (w:Tx):Option Tx:=if n= -1 then some w else if n.toNat∈L then eE (F.rules.getD n.toNat dF) w else none
noncomputable def gW (F:aE) (xs:List bp) (e:Nat) (f s p:Int):Option Tx:=
 if f= -1∧s≠ -1 then none
 else (gQ F (bh F (flagsOf xs e) 2) f (xs.getD e ([],[])).1).bind fun w=>(gQ F (bh F (bV F f) 2) s w).bind fun v=>(gQ F (bh F (flagsOf xs e) 1) p v).bind fun u=>
  if fu F xs e f s p=true then some u else none
noncomputable def sN (F:aE) (xs:List bp) (e:Nat) (f s:Int):List bE:=(nD F.rules.length).filterMap fun p=>(gW F xs e f s p).map fun u=>(⟨u,e,f,s,p⟩:bE)
noncomputable def vI (F:aE) (xs:List bp) (e:Nat) (f:Int):List bE:=(nD F.rules.length).flatMap<|sN F xs e f
theorem RK {α β:Type} {l:List α} {f:α→Option β} (h:∀ x∈l,f x=none):l.filterMap f= []:=by
 induction l with
 | nil=>rfl
 | cons x l C=>rw [z6,h x (mY ..)]; exact C fun y A=>h y<|nO _ A
theorem Bu {α β:Type} {l:List α} {f:α→List β} (h:∀ x∈l,f x= []):l.flatMap f= []:=by
 induction l with
 | nil=>rfl
 | cons x l C=>rw [kt,h x (mY ..),qj]; exact C fun y A=>h y<|nO _ A
theorem G4 {α β:Type} (q:α→Bool) (f:α→List β):∀ l:List α,(l.filter q).flatMap f=l.flatMap fun x=>if q x=true then f x else []:=by
 intro l
 induction l with
 | nil=>rfl
 | cons x l A=>
   by_cases h:q x=true
   · rw [MH h,kt,kt,if_pos h,A]
   · rw [MG h,kt,if_neg h,A]; rfl
theorem Hr {α β:Type} {f g:α→List β} :∀ {l:List α},(∀ x∈l,f x=g x)→l.flatMap f=l.flatMap g:=by
 intro l h
 induction l with
 | nil=>rfl
 | cons x l C=>rw [kt,kt,h x (mY ..),C fun y A=>h y (nO _ A)]
theorem RJ {α β:Type} {f g:α→Option β} :∀ {l:List α},(∀ x∈l,f x=g x)→l.filterMap f=l.filterMap g:=by
 intro l h
 induction l with
 | nil=>rfl
 | cons x l C=>rw [z6,z6,h x (mY ..),C fun y A=>h y (nO _ A)]
theorem Cs {F:aE} {fs:List Nat} {k i:Nat} (h:i < F.rules.length):decide ((F.rules.getD i dF).kind=k∧(F.rules.getD i dF).flag∈fs)=decide (i∈bh F fs k):=by
 rw [decide_eq_decide,oq]; exact ⟨fun h2=>⟨h,h2⟩,fun h2=>h2.2⟩
theorem s8 {F:aE} {L:List Nat} (i:Nat) (w:Tx):gQ F L (i:Int) w=if i∈L then eE (F.rules.getD i dF) w else none:=by
 unfold gQ; rw [if_neg ab,kg]
theorem wX {F:aE} {L:List Nat} (w:Tx):gQ F L (-1) w=some w:=by unfold gQ; rw [if_pos rfl]
theorem Bc {F:aE} {xs:List bp} {e:Nat} {f s:Int} {v:Tx} (h:∀ p,gW F xs e f s p=(gQ F (bh F (flagsOf xs e) 1) p v).bind fun u=>if fu F xs e f s p=true then some u else none):sN F xs e f s=iq F xs e v f s:=by
 unfold sN nD iq;rw [z6,List.filterMap_map];have h1:(gW F xs e f s<|-1).map (fun u=>(⟨u,e,f,s,-1⟩:bE))=if fu F xs e f s (-1)=true then some ⟨v,e,f,s,-1⟩ else none:=by
  rw [h,wX,rj]; split <;> rfl
 have h2:(gT F.rules.length).filterMap ((fun p=>(gW F xs e f s p).map fun u=>(⟨u,e,f,s,p⟩:bE))∘fun i:Nat=>(i:Int))=(bh F (flagsOf xs e) 1).filterMap (ni F xs e v f s):=by
  have h3:bh F (flagsOf xs e) 1=(gT F.rules.length).filter fun i=>decide ((F.rules.getD i dF).kind=1∧(F.rules.getD i dF).flag∈flagsOf xs e):=rfl;rw [h3,List.filterMap_filter];refine RJ fun i hi=> ?_;have hi:i < F.rules.length:=by simpa using hi
  rw [Cs hi];show (gW F xs e f s (i:Int)).map _=_;rw [h,s8];unfold ni;by_cases h4:i∈bh F (flagsOf xs e) 1
  · rw [if_pos h4,if_pos (decide_eq_true h4)];cases eE (F.rules.getD i dF) v with
    | none=>simp
    | some u=>simp only [rj]; split <;> rfl
  · rw [if_neg h4,if_neg (by rw [decide_eq_false h4]; exact dM)]; rfl
 rw [h1,h2];unfold nY;split
 · rename_i h3; split at h3
   · cases h3
   · rename_i h4; rw [if_neg h4]; rfl
 · rename_i x h3; split at h3
   · rename_i h4; cases h3; rw [if_pos h4]; rfl
   · cases h3
theorem vH {F:aE} {xs:List bp} {e:Nat} {f s:Int} (h:∀ p,gW F xs e f s p=none):sN F xs e f s= []:=RK fun p _=>by rw [h p]; rfl
theorem A2 (F:aE) (xs:List bp) (e:Nat):jX F xs e=(nD F.rules.length).flatMap (vI F xs e):=by
 unfold nD;rw [kt,MM];unfold jX;congr 1
 · unfold vI nD;rw [kt,Bu,ez,Bc (v:=(xs.getD e ([],[])).1)]
   · intro p; unfold gW; rw [if_neg (fun h=>h.2 rfl),wX,rj,wX,rj]
   · intro s hs;obtain ⟨j,_,rfl⟩:=je.1 hs;exact vH fun p=>by unfold gW; rw [if_pos ⟨aa,ab⟩]
 · have h3:bh F (flagsOf xs e) 2=(gT F.rules.length).filter fun i=>decide ((F.rules.getD i dF).kind=2∧(F.rules.getD i dF).flag∈flagsOf xs e):=rfl;conv =>lhs; rw [h3]
   rw [G4];refine Hr fun i hi=> ?_;have hi:i < F.rules.length:=by simpa using hi
   rw [Cs hi];have hm:∀ s p,gW F xs e (i:Int) s p=(gQ F (bh F (flagsOf xs e) 2) (i:Int) (xs.getD e ([],[])).1).bind fun w=>(gQ F (bh F (bV F (i:Int)) 2) s w).bind fun v=>(gQ F (bh F (flagsOf xs e) 1) p v).bind fun u=>
    if fu F xs e (i:Int) s p=true then some u else none:=fun s p=>by unfold gW; rw [if_neg (fun h=>by have :=h.1; omega)]
   by_cases h4:i∈bh F (flagsOf xs e) 2
   · rw [if_pos (decide_eq_true h4)];unfold lN;cases h5:eE (F.rules.getD i dF) (xs.getD e ([],[])).1 with
     | none=>
       have :∀ s p,gW F xs e (i:Int) s p=none:=fun s p=>by rw [hm,s8,if_pos h4,h5]; rfl
       exact (Bu fun s _=>vH fun p=>this s p).symm
     | some w=>
       have C:∀ s p,gW F xs e (i:Int) s p=(gQ F (bh F (bV F (i:Int)) 2) s w).bind fun v=>(gQ F (bh F (flagsOf xs e) 1) p v).bind fun u=>if fu F xs e (i:Int) s p=true then some u else none:=fun s p=>by rw [hm,s8,if_pos h4,h5]; rfl
       simp only;unfold vI nD;rw [kt,MM,Bc (v:=w) fun p=>by rw [C,wX]; rfl];congr 1;have G:bh F (bV F (i:Int)) 2=(gT F.rules.length).filter fun z=>decide ((F.rules.getD z dF).kind=2∧(F.rules.getD z dF).flag∈bV F (i:Int)):=rfl;conv =>lhs; rw [G]
       rw [G4];refine Hr fun z E=> ?_;have E:z < F.rules.length:=by simpa using E
       rw [Cs E];by_cases A:z∈bh F (bV F (i:Int)) 2
       · rw [if_pos (decide_eq_true A)];unfold nI;cases h8:eE (F.rules.getD z dF) w with
         | none=>exact (vH fun p=>by rw [C,s8,if_pos A,h8]; rfl).symm
         | some v=>exact (Bc (v:=v) fun p=>by rw [C,s8,if_pos A,h8]; rfl).symm
       · rw [if_neg (by rw [decide_eq_false A]; exact dM)];exact (vH fun p=>by rw [C,s8,if_neg A]; rfl).symm
   · rw [if_neg (by rw [decide_eq_false h4]; exact dM)];exact (Bu fun s _=>vH fun p=>by rw [hm,s8,if_neg h4]; rfl).symm
end Go.Hb
section
namespace Go.Hb
section
variable {B B':Nat} {fp fp' fp'':Nat→Prop} {w w' w'':ak}
end
section
variable {F fp:Nat→Prop} {W W':ak} {B:Nat}
end
section
variable {P:bH} {N:Fm} {ops:Array cg} {Q:dG→(Nat→ag)→ak→Prop} {rest:List cg} {σ:Nat→ag} {w:ak} {d':Option Nat} {d:Nat} {op:Op} {ty:bB} {pos :String} {af:Array fO} {v:ag}
end
section
variable {P:bH} {n:Nat} {F:List Nat} {σ:Nat→ag} {w:ak} {fn:lz} {R:ag→ak→Prop}
end
def Bn (P:bH) (s f:Nat):Option Nat:=
 match P.underlying s with
 | some (.struct fs)=>match fs[f]? with
   | some fd=>if fK P fd.type=some none then some fd.offset else none
   | none=>none
 | _=>none
theorem Xh {P:bH} {t:Nat} (hu:fK P t=some none) (w:ak):(isAgg t).run P w= .ok false w:=by
 unfold fK at hu;cases hd:P.underlying t with
 | none=>rw [hd] at hu; cases hu
 | some d=>
   rw [hd] at hu;cases d <;> first
    | (simp only [mZ] at hu; obtain ⟨_,_,h⟩:=hu; cases h; done)
    | simp [isAgg,dV hd]
theorem GU {P:bH} {N:Fm} {σ:Nat→ag} {w:ak} {dst:Option Nat} {ty:bB} {pos :String} {af:Array fO} {g:Option (Nat×Bool)} {x:ek} {s f n:Nat} {cs:Array ag} {v:ag} (A:Bn P s f=some n) (I:ev N σ x= .agg cs) (G:cs[n]? =some v):
 (execOp (ev N σ) ⟨dst,.field s x f,ty,pos,af,g⟩).run P w= .ok (.value v) w:=by
 unfold Bn at A;split at A
 · rename_i fs hu;split at A
   · rename_i fd E;split at A
     · rename_i C;cases A;simp [execOp,L9,dV hu,E,I,asAgg,part,Xh C,G]
     · cases A
   · cases A
 · cases A
section
variable {P:bH} {ops:Array cg} {Q:dG→Act→ak→Prop} {S:ak→Prop} {md:tw}
def Ly (P:bH) (md:tw) (ops:Array cg) (Q:dG→Act→ak→Prop) (S:ak→Prop):Nat→Array Bool→Act→ak→Prop
 | 0,aW,a,w=>k5 md ops aW= []∧Q .normal a w
 | fuel+1,aW,a,w=>
   (k5 md ops aW= []→Q .normal a w)∧
   ∀ i∈k5 md ops aW,wpOpIn q6 0 P ops Q i (fun A w'=>S w'∧Ly P md ops Q S fuel (aW.setIfInBounds i true) A w') a w
end
def Zx (P:bH) (N:Fm) (ops:Array cg) (Q:dG→(Nat→ag)→ak→Prop) (S:ak→Prop) (fuel:Nat) (aW:Array Bool) (σ:Nat→ag) (w:ak):Prop :=
 Ly P .any ops (lift N Q) S fuel aW (act N σ) w
section
variable {P:bH} {N:Fm} {ops:Array cg} {Q:dG→(Nat→ag)→ak→Prop} {σ:Nat→ag} {w:ak} {d':Option Nat} {d:Nat} {op:Op} {ty:bB} {pos :String} {af:Array fO} {v:ag}
variable {S:ak→Prop} {fuel:Nat} {aW:Array Bool}
end
attribute [irreducible] Zx
end Go.Hb
end
namespace Go.Hb
theorem Jp {b:UInt8} {m:Int} (h:48≤b.toNat∧b.toNat≤57) (hm:((b.toNat - 48:Nat):Int)≤m):e8 [b] m= .ok (b.toNat - 48):=by
 have A:gG [b]=b.toNat - 48:=by simp [gG]
 have C:¬rM [b]:=by rintro (h | ⟨h,_⟩) <;> simp at h
 have hd:A5 [b]:=fun i hi=>by
  have hi:i=0:=by simpa using hi
  subst hi;exact decide_eq_true h
 unfold e8;rw [Cw C hd (by rw [A]; omega),A];rfl
theorem DN:eZ 1 [65]=65:=by unfold eZ; decide+kernel
theorem Zp:ic iJ [65]= .ok 65:=by
 unfold ic ir iJ;simp only;rw [DN];simp [eM,eb]
theorem Zq:lj 1 [65]= .ok [65]:=by
 have h1:ea 1 [65]= [[65]]:=by decide+kernel
 have h:ed 1 [65]=([65],0):=by
  unfold ed;rw [h1,if_neg (by simp),if_neg (by simp [DN]),if_neg (by simp),pF,List.map_nil,DN];decide+kernel
 unfold lj;rw [h]; rfl
end Go.Hb
section
namespace Go.Hb
section
variable {P:bH} {n:Nat} {Fx:List Nat} {σ:Nat→ag} {w:ak} {fn:lz} {R:ag→ak→Prop} {B:dG→Act→ak→Prop} {N:Fm}
variable {S:List Nat→(Nat→ag)→ak→Prop}
end
theorem I5 (o:Nat):∀ (r:List ag) (m:Nat) (pre A:List ag),pre.length=o+m→r.length≤A.length→
 (r.zipIdx m).foldl (fun (cs:Array ag) (c,j)=>cs.setIfInBounds (o+j) c) (pre++A).toArray=(pre++r++A.drop r.length).toArray
 | [],m,pre,A,_,_=>by simp
 | c::r,m,pre,A,hp,hl=>by
   cases A with
   | nil=>simp at hl
   | cons z A=>
     rw [Ak,sy];have h1:(pre++z::A).toArray.setIfInBounds (o+m) c=((pre++ [c])++A).toArray:=by rw [← hp]; simp
     show List.foldl _ ((pre++z::A).toArray.setIfInBounds (o+m) c) _=_;rw [h1,I5 o r (m+1) (pre++ [c]) A (by simp; omega) (by simpa using hl)];simp
theorem G3 {size:Nat} :∀ (rest:List (List ag)) (m:Nat) (pre A:List ag),pre.length=m*size→A.length=rest.length*size→(∀ r∈rest,r.length=size)→
 nL (fun i=>some (i*size,size)) (pre++A).toArray ((rest.zipIdx m).map fun q=>(q.2,bN q.1.toArray))=some (pre++rest.flatten).toArray
 | [],m,pre,A,_,hz,_=>by
   obtain rfl :A= []:=fY<|by simpa using hz
   rfl
 | r::rest,m,pre,A,hp,hz,hr=>by
   have C:=hr r<|mY ..;have I:A.length=rest.length*size+size:=by rw [hz,cC,ri]
   rw [Ak,pF];have E:(bN r.toArray).cells=r.toArray:=by simp [Value.cells]
   simp only [nL,E];rw [if_neg (by simp; omega)];have h1:=I5 (m*size) r 0 pre A ab ab;have h2:(r.toArray.zipIdx.foldl (fun (cs:Array ag) (c,j)=>cs.setIfInBounds (m*size+j) c) (pre++A).toArray)=(pre++r++A.drop r.length).toArray:=by
    rw [← h1,← LM]; simp
   rw [h2,G3 rest (m+1) (pre++r) (A.drop r.length) (by rw [bG,hp,C,ri]) (by rw [fP]; omega) (fun x G=>hr x<|nO _ G)];simp
section
variable {P:bH} {N:Fm} {σ:Nat→ag} {w:ak} {dst:Option Nat} {ty:bB} {pos :String} {af:Array fO} {g:Option (Nat×Bool)} {K:(Nat→ag)→ak→Prop}
theorem Om {t e size bytes n:Nat} {ps:Array (Nat×ek)} (rows:List (List ag)) (O:gj P t e size bytes=true) (hp:ps.toList.map (fun p=>(p.1,ev N σ p.2))=(rows.zipIdx 0).map fun q=>(q.2,bN q.1.toArray))
 (E:rows.all (fun r=>r.length==size)=true) (hn:rows.length=n) (hs:(oH (n*size) 1000 && gu 0 n && oH n 1000)=true)
 (k:∀ b w',b=w.heap.size→Nw w w'→w'.heap[b]? =some (.cells rows.flatten.toArray e (0,0))→K (gy σ dst<|.slice (some ⟨b,0,none⟩) n n) w'):dI P N ⟨dst,.buildSlice t n ps,ty,pos,af,g⟩ σ w K:=by
 subst hn;refine oC (v:=fun b=> .slice (some ⟨b,0,none⟩) rows.length rows.length) (ob:= .cells rows.flatten.toArray e (0,0)) ?_ k;obtain ⟨hu,i,zv,hi,V,A,h2,h3,h4⟩:=r5 O;simp only [il] at hs;have I:rows.length*size≤1000:=by simpa using hs.1.1
 have Z:rows.length≤1000:=by simpa using hs.2
 have J:0 < rows.length:=by have :=sA hs.1.2; omega
 have C:nL (fun i=>some (i*size,size)) ((q5<|rows.length*size).map (zv.cells[· % zv.cells.size]!)) (ps.toList.map fun p=>(p.1,ev N σ p.2))=some rows.flatten.toArray:=by
  rw [hp];have Y:((q5<|rows.length*size).map (zv.cells[· % zv.cells.size]!)).toList.length=rows.length*size:=by simp
  have :=G3 (size:=size) rows 0 [] ((q5<|rows.length*size).map (zv.cells[· % zv.cells.size]!)).toList (by simp) Y fun r G=>by have :=lV.1 E r G; simpa using this
  rw [qj,qj,zM] at this;exact this
 simp only [execOp,Instr.buildSlice,oF,dV hu,oE,sizeOf,jn hi,q8,A,Sem.run_ite,zeroValue,V,nK,C];rw [if_neg (Nat.not_lt.2<|e7 I aw),if_neg (Nat.pos_iff_ne_zero.1<|Nat.mul_pos J h4)];simp [newRow]
end
section
variable {P:bH} {N:Fm} {σ:Nat→ag} {w:ak} {dst:Option Nat} {ty:bB} {pos :String} {af:Array fO} {g:Option (Nat×Bool)} {x y:ek}
end
end Go.Hb
end
section
namespace Go.Hb
open Go.ChangeMaps
open Classical
structure sD (es:List MapEntry) (c:Nat):Prop where
 lt:∀ e∈es,e.born < c
 nd:(es.map (·.born)).Nodup
structure qu (es:List MapEntry) (isK:ag→Prop) (f:ag→Option ag):Prop where
 ks:∀ e∈es,isK e.key
 nd:(es.map (·.key)).Nodup
 iff :∀ k v,f k=some v↔∃ e∈es,e.key=k∧e.val=v
def lG (h:Array Obj) (b:Nat) (isK:ag→Prop) (f:ag→Option ag):Prop := ∃ es c,h[b]? =some (.map es c)∧sD es.toList c∧qu es.toList isK f
theorem lG.yM {h:Array Obj} {b:Nat} {isK:ag→Prop} {f:ag→Option ag} (hm:lG h b isK f):cR h b isK f:=by
 obtain ⟨es,c,h1,_,h3⟩:=hm;refine ⟨_,⟨es,c,h1,aa⟩,fun p hp=> ?_,?_,fun k v=> ?_⟩
 · obtain ⟨e,he,rfl⟩:=je.1 hp; exact h3.ks e he
 · rw [MU]; exact h3.nd
 · rw [h3.iff,je];exact ⟨fun ⟨e,he,h1,h2⟩=>⟨e,he,by rw [h1,h2]⟩,fun ⟨e,he,h1⟩=>⟨e,he,congrArg gU h1,congrArg Prod.snd h1⟩⟩
theorem lG.md {F:Nat→Prop} {w w':ak} {b:Nat} {isK:ag→Prop} {f:ag→Option ag} (h:lG w.heap b isK f) (hm:Md F w w') (A:¬F b):lG w'.heap b isK f:=by
 obtain ⟨es,c,h1,h2⟩:=h;exact ⟨es,c,by rw [hm.dx b (dD.1 h1).1 A]; exact h1,h2⟩
theorem lG.nil {h:Array Obj} {b:Nat} {isK:ag→Prop} {c:Nat} (hm:h[b]? =some (.map #[] c)):lG h b isK fun _=>none:=
 ⟨#[],c,hm,⟨fun _ h=>by simp at h,by simp⟩,fun _ h=>by simp at h,by simp,fun k v=>by simp⟩
def tJ (h:Array Obj) (b:Nat) (isK:ag→Prop) (f:ag→Option ag) (kx:ag) (st:Nat):Prop := ∃ es c,h[b]? =some (.map es c)∧sD es.toList c∧qu es.toList isK f∧∃ e∈es.toList,e.key=kx∧e.born=st
theorem tJ.Vc {h:Array Obj} {b:Nat} {isK:ag→Prop} {f:ag→Option ag} {kx:ag} {st:Nat} (hm:tJ h b isK f kx st):lG h b isK f:=let ⟨es,c,h1,h2,h3,_⟩:=hm; ⟨es,c,h1,h2,h3⟩
theorem qu.push {es:List MapEntry} {isK:ag→Prop} {f:ag→Option ag} {kx v:ag} {c:Nat} (h:qu es isK f) (hi:isK kx) (C:∀ e∈es,e.key≠kx):qu (es++ [{key:=kx,val:=v,born:=c}]) isK (bM f kx v) where
 ks e he:=by
  rcases jT.1 he with he | he
  · exact h.ks e he
  · rw [iS.1 he]; exact hi
 nd:=by
  rw [gS,xy];refine ⟨h.nd,by simp,fun a E b A G=> ?_⟩;obtain ⟨e,he,rfl⟩:=je.1 E;simp at A;exact C e he<|by rw [G,A]
 iff k u:=by
  unfold bM;by_cases hk:k=kx
  · subst hk;rw [if_pos rfl];constructor
    · intro h1; cases h1; exact ⟨_,u7 _ (iS.2 rfl),rfl,rfl⟩
    · rintro ⟨e,he,h1,h2⟩;rcases jT.1 he with he | he
      · exact absurd h1<|C e he
      · rw [iS.1 he] at h2; rw [← h2]
  · rw [if_neg hk,h.iff];constructor
    · rintro ⟨e,he,h1⟩; exact ⟨e,Ag _ he,h1⟩
    · rintro ⟨e,he,h1,h2⟩;rcases jT.1 he with he | he
      · exact ⟨e,he,h1,h2⟩
      · rw [iS.1 he] at h1; exact absurd h1.symm hk
theorem sD.push {es:List MapEntry} {kx v:ag} {c:Nat} (h:sD es c):sD (es++ [{key:=kx,val:=v,born:=c}]) (c+1) where
 lt e he:=by
  rcases jT.1 he with he | he
  · have :=h.lt e he; omega
  · rw [iS.1 he]; exact tF _
 nd:=by
  rw [gS,xy];refine ⟨h.nd,by simp,fun a A b C E=> ?_⟩;obtain ⟨e,he,rfl⟩:=je.1 A;simp at C;have :=h.lt e he; omega
theorem yL {α:Type} (l:List α) (g:α→α) (i j:Nat):(l.modify i g)[j]? =if i=j then (l[j]?).map g else l[j]? :=by
 rw [MQ];by_cases h:i=j
 · simp [h]
 · simp [h]
theorem uq {α:Type} {l:List α} {g:α→α} {i:Nat} {e:α} (hi:l[i]? =some e) (x:α):x∈l.modify i g↔x=g e∨∃ j,j≠i∧l[j]? =some x:=by
 rw [List.mem_iff_getElem?];constructor
 · rintro ⟨j,A⟩;rw [yL] at A;by_cases h:i=j
   · subst h; rw [if_pos rfl,hi] at A; exact .inl (vj A).symm
   · rw [if_neg h] at A;exact .inr ⟨j,fun e=>h e.symm,A⟩
 · rintro (rfl | ⟨j,A,h⟩)
   · exact ⟨i,by rw [yL,if_pos aa,hi]; rfl⟩
   · exact ⟨j,by rw [yL,if_neg (fun e=>A e.symm),h]⟩
theorem Jb {α β:Type} {l:List α} (g:α→α) (p:α→β) (hp:∀ x,p (g x)=p x) (i:Nat):(l.modify i g).map p=l.map p:=by
 apply qe;intro j;rw [fJ,fJ,yL];cases l[j]? with
 | none=>by_cases h:i=j <;> simp [h]
 | some x=>by_cases h:i=j <;> simp [h,hp]
theorem qu.Xq {es:List MapEntry} {isK:ag→Prop} {f:ag→Option ag} {v:ag} {i:Nat} {e:MapEntry} (h:qu es isK f) (hi:es[i]? =some e):qu (es.modify i fun e=> {e with val:=v}) isK (bM f e.key v) where
 ks x C:=by
  rcases (uq hi x).1 C with rfl | ⟨j,_,A⟩
  · exact h.ks e<|gB hi
  · exact h.ks x<|gB A
 nd:=by rw [Jb (fun e:MapEntry=> {e with val:=v}) (·.key) (fun _=>rfl)]; exact h.nd
 iff k u:=by
  have J:∀ {j:Nat} {x:MapEntry},es[j]? =some x→x.key=e.key→j=i:=fun {j x} A hk=>by
   have I:=(ff.1 A).1;exact (Es (by simpa using I) h.nd).1<|by rw [fJ,fJ,A,hi,lB,lB,hk]
  unfold bM;by_cases hk:k=e.key
  · subst hk;rw [if_pos rfl];constructor
    · intro h1; cases h1; exact ⟨_,(uq hi _).2 (.inl rfl),rfl,rfl⟩
    · rintro ⟨x,C,h1,h2⟩;rcases (uq hi x).1 C with rfl | ⟨j,A,G⟩
      · rw [← h2]
      · exact absurd (J G h1) A
  · rw [if_neg hk,h.iff];constructor
    · rintro ⟨x,C,h1,h2⟩;obtain ⟨j,A⟩:=Ab C;have E:j≠i:=fun E=>by subst E; rw [hi] at A; cases A; exact hk h1.symm
      exact ⟨x,(uq hi x).2 (.inr ⟨j,E,A⟩),h1,h2⟩
    · rintro ⟨x,C,h1,h2⟩;rcases (uq hi x).1 C with rfl | ⟨j,_,G⟩
      · exact absurd h1.symm hk
      · exact ⟨x,gB G,h1,h2⟩
theorem Wn {f:ag→Option ag} {k v:ag} (h:f k=some v):bM f k v=f:=by
 funext q; unfold bM;by_cases A:q=k
 · subst A; rw [if_pos rfl,h]
 · rw [if_neg A]
section
variable {P:bH} {N:Fm} {σ:Nat→ag} {w:ak} {dst:Option Nat} {ty:bB} {pos :String} {af:Array fO} {g:Option (Nat×Bool)} {x y z:ek} {K:(Nat→ag)→ak→Prop}
variable {t k e:bB} {isK:ag→Prop} {b:Nat} {f:ag→Option ag} {kx v zv:ag}
theorem UY (ag:P.underlying t=some (.map k e)) (ak:zeroV P e=some zv) (I:mD P k isK) (hm:lG w.heap b isK f) (hi:isK kx):
 ∃ st w',(D3 t (.map<|some b) kx).run P w= .ok (.tuple #[(f kx).getD zv,.int .i64 ((st:Nat):Int)]) w'∧Md (fun j=>j=b) w w'∧tJ w'.heap b isK (bM f kx<|(f kx).getD zv) kx st:=by
 obtain ⟨es,c,G,O,E⟩:=hm;have V:=(dD.1 G).1;rcases I.key.find w kx es.toList hi E.ks with ⟨h1,ae⟩ | ⟨j,C,h1,Z,h5⟩
 · have A:f kx=none:=by
    cases A:f kx with
    | none=>rfl
    | some u=>obtain ⟨ah,ai,h2,_⟩:=(E.iff kx u).1 A; exact absurd h2<|ae ah ai
   refine ⟨c,{w with heap:=w.heap.setIfInBounds b<|.map (es.push {key:=kx,val:=zv,born:=c})<|c+1},?_,⟨aa,aa,by simp,fun i _ J=>by simp only; rw [uO (fun e=>J e.symm)]⟩,es.push {key:=kx,val:=zv,born:=c},c+1,by simp only; rw [uP V],?_,?_,?_⟩
   · rw [A];simp [D3,dV ag,run_getObj_map G,I.key.check _ w kx hi,h1,setObj,tx,G,xg ak,goInt]
   · rw [DX]; exact O.push
   · rw [DX,A]; exact E.push hi ae
   · exact ⟨_,by rw [DX]; exact u7 _ (iS.2 aa),aa,aa⟩
 · have ab:es[j]? =some C:=by simpa using Z
   have ac:=gB Z;have A:f kx=some C.val:=(E.iff kx _).2 ⟨C,ac,h5,rfl⟩;have aj:(es.modify j fun e=> {e with key:=kx})=es:=by
    apply Array.ext_getElem?;intro i;rw [Array.getElem?_modify];by_cases Y:j=i
    · subst Y; rw [if_pos rfl,ab,← h5]; rfl
    · rw [if_neg Y]
   refine ⟨C.born,{w with heap:=w.heap.setIfInBounds b<|.map (es.modify j fun e=> {e with key:=kx}) c},?_,⟨aa,aa,by simp,fun i _ J=>by simp only; rw [uO (fun e=>J e.symm)]⟩,es,c,by simp only; rw [uP V,aj],O,?_,C,ac,h5,aa⟩
   · have hs:=I.stays w kx hi;rw [A];simp [D3,dV ag,run_getObj_map G,I.key.check _ w kx hi,h1,ab,h5,hs,setObj,tx,G,goInt]
   · rw [A]; show qu _ _ (bM f kx C.val); rw [Wn A]; exact E
theorem UX (C:P.underlying t=some (.map k e)) (I:zeroV P e=some zv) (A:mD P k isK) (hm:lG w.heap b isK f) (E:ev N σ x= .map (some b)) (G:ev N σ y=kx) (hi:isK kx)
 (J:∀ (st:Nat) w',Md (fun j=>j=b) w w'→tJ w'.heap b isK (bM f kx<|(f kx).getD zv) kx st→K (gy σ dst<|.tuple #[(f kx).getD zv,.int .i64 (st:Nat)]) w'):dI P N ⟨dst,.mapEntry t x y,ty,pos,af,g⟩ σ w K:=by
 obtain ⟨st,w',h1,h2,h3⟩:=UY C I A hm hi;refine mW (v:= .tuple #[(f kx).getD zv,.int .i64 (st:Nat)]) ?_<|J st w' h2 h3;simp [execOp,E,G,h1]
theorem U0 {st:Nat} (hm:tJ w.heap b isK f kx st):∃ w',(L8 t (.map<|some b) (.int .i64 (st:Nat)) v).run P w= .ok () w'∧Md (fun j=>j=b) w w'∧lG w'.heap b isK (bM f kx v):=by
 obtain ⟨es,c,E,C,Z,G,I,ag,V⟩:=hm;have ab:=(dD.1 E).1;obtain ⟨i,hi⟩:=Ab I;have J:es[i]? =some G:=by simpa using hi
 have ae:=(dD.1 J).1;have ac:es.findIdx? (fun e=>(e.born:Int)==(st:Int))=some i:=by
  rw [Array.findIdx?_eq_some_iff_getElem];refine ⟨ae,?_,fun j O=> ?_⟩
  · rw [(dD.1 J).2,V]; simp
  · have A:(es.toList.map (·.born))[j]?≠(es.toList.map (·.born))[i]? :=fun h=>by
     have :=(Es (by simp; omega) C.nd).1 h; omega
    rw [fJ,fJ,hi,bY (by simp; omega)] at A;simp only [lB,Array.getElem_toList] at A;simp only [beq_iff_eq];intro h;exact A<|congrArg some<|by rw [V]; omega
 refine ⟨{w with heap:=w.heap.setIfInBounds b<|.map (es.modify i fun e=> {e with val:=v}) c},?_,⟨aa,aa,by simp,fun j _ A=>by simp only; rw [uO (fun e=>A e.symm)]⟩,es.modify i fun e=> {e with val:=v},c,by simp only; rw [uP ab],⟨fun x Y=> ?_,?_⟩,?_⟩
 · simp [L8,run_getObj_map E,asInt,asIntOf,ac,setObj,tx,E]
 · rw [zP] at Y;rcases (uq hi x).1 Y with rfl | ⟨j,_,O⟩
   · exact C.lt G I
   · exact C.lt x<|gB O
 · rw [zP,Jb (fun e:MapEntry=> {e with val:=v}) (·.born) (fun _=>rfl)]; exact C.nd
 · rw [zP,← ag]; exact Z.Xq hi
theorem UZ {st:Nat} (hm:tJ w.heap b isK f kx st) (C:ev N σ x= .map (some b)) (E:ev N σ y= .int .i64 (st:Nat)) (G:ev N σ z=v)
 (I:∀ w',Md (fun j=>j=b) w w'→lG w'.heap b isK (bM f kx v)→K σ w'):dI P N ⟨none,.entryStore t x y z,ty,pos,af,g⟩ σ w K:=by
 obtain ⟨w',h1,h2,h3⟩:=U0 (P:=P) (t:=t) (v:=v) hm;have A:(execOp (ev N σ) ⟨none,.entryStore t x y z,ty,pos,af,g⟩).run P w= .ok .skip w':=by
  simp [execOp,C,E,G,h1]
 unfold dI kr;rw [jv,A];exact ⟨σ,aa,I w' h2 h3⟩
end
def qv (h:Array Obj) (r b:Nat) (left :List (ag×ag)):Prop :=
 ∃ (es:Array MapEntry) (c:Nat) (seen:Array Nat) (A:Nat),h[r]? =some (.mapIter (some b) c seen A)∧c≤A∧h[b]? =some (.map es c)∧sD es.toList c∧(leftOf es seen).toList.map (fun e=>(e.key,e.val))=left
def vp (h:Array Obj) (r b:Nat) (left :List (ag×ag)) (A:ag×ag):Prop :=
 ∃ (es:Array MapEntry) (c:Nat) (seen:Array Nat) (e:MapEntry),h[r]? =some (.mapIter (some b) c (seen.push e.born) c)∧h[b]? =some (.map es c)∧sD es.toList c∧(leftOf es<|seen.push e.born).toList.map (fun e=>(e.key,e.val))=left∧e∈es.toList∧(e.key,e.val)=A
theorem vp.Vd {h:Array Obj} {r b:Nat} {left :List (ag×ag)} {A:ag×ag} (hm:vp h r b left A):qv h r b left :=let ⟨es,c,seen,e,h1,h2,h3,h4,_⟩:=hm; ⟨es,c,_,c,h1,cE _,h2,h3,h4⟩
theorem qv.md {F:Nat→Prop} {w w':ak} {r b:Nat} {left :List (ag×ag)} (h:qv w.heap r b left) (hm:Md F w w') (E:¬F r) (C:¬F b):qv w'.heap r b left :=by
 obtain ⟨es,c,seen,A,h1,h2,h3,h4⟩:=h;exact ⟨es,c,seen,A,by rw [hm.dx r (dD.1 h1).1 E]; exact h1,h2,by rw [hm.dx b (dD.1 h3).1 C]; exact h3,h4⟩
section
variable {P:bH} {N:Fm} {σ:Nat→ag} {w:ak} {dst:Option Nat} {ty:bB} {pos :String} {af:Array fO} {g:Option (Nat×Bool)} {x y z:ek} {K:(Nat→ag)→ak→Prop}
variable {t k e:bB} {isK:ag→Prop} {b:Nat} {f:ag→Option ag} {kx v zv:ag}
theorem WQ (I:P.underlying t=some (.map k e)) (hm:lG w.heap b isK f) (J:ev N σ x= .map (some b))
 (O:∀ r w' left,r=w.heap.size→Nw w w'→qv w'.heap r b left→(∀ p∈left,isK p.1)→(left.map gU).Nodup→(∀ k v,f k=some v↔(k,v)∈left)→K (gy σ dst<|.pointer<|some ⟨r,0,none⟩) w'):
 dI P N ⟨dst,.range t x,ty,pos,af,g⟩ σ w K:=by
 obtain ⟨es,c,C,E,A⟩:=hm;have G:=(dD.1 C).1;refine oC (v:=fun r=> .pointer<|some ⟨r,0,none⟩) (ob:= .mapIter (some b) c #[] c) ?_ (fun r w' h1 h2 h3=>O r w' (es.toList.map fun e=>(e.key,e.val)) h1 h2 ⟨es,c,#[],c,h3,cE _,by rw [h2.md.dx b G id]; exact C,E,by unfold leftOf; simp only [zN]; rw [z7.2 (fun x _=>by simp)]⟩ ?_ ?_ ?_)
 · simp [execOp,J,Instr.range,dV I,run_getObj_map C]
 · intro p hp; obtain ⟨e,he,rfl⟩:=je.1 hp; exact A.ks e he
 · rw [MU]; exact A.nd
 · intro k v;rw [A.iff,je];exact ⟨fun ⟨e,he,h1,h2⟩=>⟨e,he,by rw [h1,h2]⟩,fun ⟨e,he,h1⟩=>⟨e,he,congrArg gU h1,congrArg Prod.snd h1⟩⟩
theorem Uq {es:Array MapEntry} {seen:Array Nat} {e:MapEntry} (hn:(es.toList.map (·.born)).Nodup) (he:e∈(leftOf es seen).toList):(leftOf es seen).toList.Perm (e::(leftOf es<|seen.push e.born).toList):=by
 have h1:(leftOf es<|seen.push e.born).toList=(leftOf es seen).toList.filter fun x=>x.born !=e.born:=by
  unfold leftOf;simp only [zN,List.filter_filter];congr 1;funext x;have E:(seen.push e.born).contains x.born=(seen.contains x.born || x.born==e.born):=by
   rw [sg]; simp [Array.mem_push]
  rw [E,Bool.not_or,Bool.and_comm]; rfl
 have A:((leftOf es seen).toList.map (·.born)).Nodup:=by
  unfold leftOf;rw [zN];exact (MJ.map _).nodup hn
 rw [h1];generalize (leftOf es seen).toList=l at he A;clear h1
 induction l with
 | nil=>cases he
 | cons a l J=>
   rw [pF,Ew] at A;by_cases C:a=e
   · subst C;have h2:(a::l).filter (fun x=>x.born !=a.born)=l:=by
      rw [pD,if_neg (by simp)];exact z7.2 fun x I=>by
       have :x.born≠a.born:=fun h=>A.1<|h ▸ tC I;simpa using this
     rw [h2]
   · have BU:e∈l:=by
      rcases fi.1 he with h | h
      · exact absurd h.symm C
      · exact h
     have G:a.born≠e.born:=fun h=>A.1<|h ▸ tC BU;rw [pD,if_pos (by simpa using G)];exact ((J BU A.2).cons a).trans<|List.Perm.swap e a _
theorem Vz {r:Nat} {left :List (ag×ag)} (hm:qv w.heap r b left) (Y:ev N σ x= .pointer (some ⟨r,0,none⟩))
 (ae:left = []→K (gy σ dst<|.tuple #[.bool false]) w)
 (h1:∀ C Z w',left.Perm (C::Z)→Md (fun j=>j=r) w w'→vp w'.heap r b Z C→K (gy σ dst<|.tuple #[.bool true,C.1,C.2]) w'):
 dI P N ⟨dst,.next x false,ty,pos,af,g⟩ σ w K:=by
 obtain ⟨es,c,seen,ac,G,ah,A,E,rfl⟩:=hm;rcases run_next_at (P:=P) w ty r b c ac seen es c G A E.lt ah with ⟨h2,J⟩ | ⟨e,he,ab,O,J⟩
 · refine mW (v:= .tuple #[.bool false]) ?_<|ae<|by rw [Array.eq_empty_of_size_eq_zero h2]; rfl
   simp [execOp,Y,J]
 · have I:ab.heap=w.heap:=by rcases O with rfl | rfl <;> rfl
   have V:Md (fun j=>j=r) w (setBlock ab r<|.mapIter (some b) c (seen.push e.born) c):=by
    refine ⟨?_,?_,?_,fun j _ ai=> ?_⟩
    · rcases O with rfl | rfl <;> rfl
    · rcases O with rfl | rfl <;> rfl
    · simp [setBlock,I]
    · simp only [setBlock,I]; rw [uO (fun e=>ai e.symm)]
   have aj:r≠b:=fun h=>by subst h; rw [G] at A; cases A
   refine mW (v:= .tuple #[.bool true,e.key,e.val]) ?_ (h1 (e.key,e.val) _ _ (by have :=(Uq E.nd he).map (fun e=>(e.key,e.val)); exact this) V ⟨es,c,seen,e,?_,?_,E,aa,?_,aa⟩)
   · simp [execOp,Y,J]
   · simp only [setBlock,I]; rw [uP (dD.1 G).1]
   · rw [V.dx b (dD.1 A).1 (fun h=>aj h.symm)]; exact A
   · unfold leftOf at he;rw [zN] at he;exact (qh.1 he).1
def Jr (b:Bool) (A:ag×ag):ag:=match b with | true => .tuple #[.bool true,A.1,A.2] | false => .tuple #[.bool false]
theorem Vy {A:Bool} {E:ag×ag} (C:ev N σ x=Jr A E):(execOp (ev N σ) ⟨dst,.extract x 0,ty,pos,af,g⟩).run P w= .ok (.value<|.bool A) w:=by
 cases A
 · exact xt C aa
 · exact xt C aa
theorem Vx {r:Nat} {left :List (ag×ag)} (hm:qv w.heap r b left) (I:ev N σ x= .pointer (some ⟨r,0,none⟩))
 (h:∀ E A C w',(E=false→left = []∧w'=w)→(E=true→left.Perm (A::C)∧Md (fun j=>j=r) w w'∧vp w'.heap r b C A)→K (gy σ dst<|Jr E A) w'):
 dI P N ⟨dst,.next x false,ty,pos,af,g⟩ σ w K:=
 Vz hm I (fun G=>h false (.nilFunc,.nilFunc) [] w (fun _=>⟨G,rfl⟩) fun h=>by cases h) (fun A C w' h1 h2 h3=>h true A C w' (fun h=>by cases h) fun _=>⟨h1,h2,h3⟩)
theorem eu {r:Nat} {left :List (ag×ag)} {A:ag×ag} (hm:vp w.heap r b left A) (C:ev N σ x= .pointer (some ⟨r,0,none⟩)):
 (execOp (ev N σ) ⟨dst,.entry x,ty,pos,af,g⟩).run P w= .ok (.value<|.tuple #[A.1,A.2]) w:=by
 obtain ⟨es,c,seen,e,h1,h2,h3,_,h5,rfl⟩:=hm;have :=run_entry_at (P:=P) w r b c seen es c e h1 h2 h5 h3.nd;simp [execOp,C,this]
end
end Go.Hb
end
section
namespace Go.Hb
abbrev Tl:=List<|List UInt8
def BO:Tl→List (UInt8×Tl)
 | []=> []
 | []::ts=>BO ts
 | (c::t)::ts=>match BO ts with
   | []=> [(c,[t])]
   | (c',g)::r=>if c=c' then (c,t::g)::r else (c,[t])::(c',g)::r
def TW (A:Tl):Bool:=match A with | []::_=>true | _=>false
def Q0 (A:Tl):Tl:=match A with | []::r=>r | r=>r
structure VS where
 known:List Tl
 Yd:List (Bool×List (UInt8×Nat))
def VS.add (s:VS) (A:Tl):VS:=⟨s.known++ [A],s.Yd++ [(false,[])]⟩
end Go.Hb
namespace Go.Hb
end Go.Hb
namespace Go.Hb
abbrev Nk:=Bool×List (UInt8×Nat)
end Go.Hb
namespace Go.Hb
end Go.Hb
namespace Go.Hb
def Q8 (A:List Tl) (p:UInt8×Tl):UInt8×Nat:=(p.1,A.idxOf p.2+1)
def enc (A:List Tl) (L:Tl):Nk:=(TW L,(BO<|Q0 L).map (Q8 A))
end Go.Hb
namespace Go.Hb
end Go.Hb
namespace Go.Hb
end Go.Hb
namespace Go.Hb
end Go.Hb
end
namespace Go.Hb
def uH:Tx:= [83,70,88,32,65,32,89,32,49,10,83,70,88,32,65,32,48,32,115,10]
def zC:Tx:= [50,10,103,97,115,10,103,97,47,65,10]
def gX:aE:=⟨1,[],[],[0,0,0,0,0],3,[],[],[⟨65,2,true,0,1⟩],[⟨2,65,true,[],[115],[46],[],2⟩]⟩
def jF:List bp:= [([103,97,115],[]),([103,97],[65])]
theorem Zd:bT uH= [(1,[[83,70,88],[65],[89],[49]]),(2,[[83,70,88],[65],[48],[115]])]:=by decide+kernel
theorem Ze:bT zC= [(1,[[50]]),(2,[[103,97,115]]),(3,[[103,97,47,65]])]:=by decide+kernel
theorem Zf {s:Tx} {ln:Nat} (hw:bD s=(s,[],false,0)) (A:s≠[48]) (C:hZ s=0):fV 1 [] ⟨65,2,true,0,1⟩ ln [[83,70,88],[65],[48],s]= .ok ⟨2,65,true,[],s,[46],[],ln⟩:=by
 unfold fV;rw [if_neg (by simp)];simp only [lW,MN];rw [show eG true [48]= .ok [] from if_pos ⟨rfl,rfl⟩,hw];simp only;rw [show j8 (s,[],false,0)= .ok s from by unfold j8; rw [if_neg (by simp),if_neg A,if_neg (by simp [C])]];rfl
theorem Y6:fH uH= .ok gX:=by
 unfold fH;rw [if_neg aw,Zd];simp only [cC,gr];have E:ca ((bL uH).length+1) iJ [] [(2,[[83,70,88],[65],[48],[115]])] 1 [[83,70,88],[65],[89],[49]]= .ok (gX,[]):=by
  unfold ca;simp only [lW];rw [if_neg aw,if_neg aw,if_neg aw,if_neg aw,if_neg aw,if_neg aw,if_neg aw];unfold hU;simp only [lW,MN];rw [Zp];simp only;rw [if_neg (by simp),Jp (b:=49) aw aw];simp only;rw [if_neg aw];have C:∀ b,b=true→group [[83,70,88],[65]] (fV iJ.kind iJ.aliases ⟨65,if ([83,70,88]:Tx)=dt then 2 else 1,b,iJ.rules.length,ED 49 - 48⟩) ((bL uH).length+1) (ED 49 - 48) [(2,[[83,70,88],[65],[48],[115]])]= .ok (gX.rules,[]):=by
   intro b A;subst A;show group [[83,70,88],[65]] (fV 1 [] ⟨65,2,true,0,1⟩) _ 1 _=_;rw [group,if_neg aw,Zf (by decide+kernel) aw aw];rfl
  rw [C _ (by simp)];simp only [decide_true];rfl
 rw [ij];simp only [lW];rw [if_neg aw,if_neg aw,if_neg aw,E];simp only;rw [ij];rfl
theorem Za:fD gX zC= .ok jF:=by
 have C:gh gX [[103,97,47,65]]= .ok ([103,97],[65]):=by
  have hw:bD [103,97,47,65]=([103,97],[65],true,0):=by decide+kernel
  refine (Bb (row:= [[103,97,47,65]]) (set := [65]) aa ?_ ?_ ?_ ?_ ?_ ?_ ?_).trans ?_
  all_goals try simp only [lW,hw]
  · decide
  · decide
  · simp
  · show gx 1 [] [65]=_;unfold gx; rw [if_pos rfl]; exact Zq
  · intro i hi;have :i=0:=by simpa using hi
    subst this; decide
 have A:gh gX [[103,97,115]]= .ok ([103,97,115],[]):=by
  have hw:bD [103,97,115]=([103,97,115],[],false,0):=by decide+kernel
  unfold gh;simp only [lW,hw];rw [if_neg (by simp),if_neg (by simp),if_neg aw,if_neg aw,if_pos trivial]
 have hn:e8 [50] 8192= .ok 2:=Jp aw aw;rw [Gq aw Ze rfl (show e8 ([[50]].getD 0 []) 8192= .ok 2 from hn),fk,A];simp only;rw [fk,C];simp only;rw [fk];rfl
theorem Y7:eE ⟨2,65,true,[],[115],[46],[],2⟩ [103,97]=some [103,97,115]:=by
 have A:dj [46]=([],0):=by unfold dj; rw [if_neg (by simp),if_pos rfl]
 unfold eE ib;simp only [A];rw [if_pos (by simp only [if_true,gr]; rfl)];rfl
def zD:List bE:= [⟨[103,97,115],0,-1,-1,-1⟩,⟨[103,97,115],1,0,-1,-1⟩]
theorem Y8:jX gX jF 0= [⟨[103,97,115],0,-1,-1,-1⟩]:=by
 have h1:bh gX (flagsOf jF (0:Nat)) 1= []:=aw;have h2:bh gX (flagsOf jF (0:Nat)) 2= []:=aw;unfold jX iq;rw [h1,h2];simp only [Er,ez,List.filterMap_nil];unfold nY;rw [if_pos aw];rfl
theorem Y9:jX gX jF 1= [⟨[103,97],1,-1,-1,-1⟩,⟨[103,97,115],1,0,-1,-1⟩]:=by
 have h1:bh gX (flagsOf jF (1:Nat)) 1= []:=aw;have h2:bh gX (flagsOf jF (1:Nat)) 2= [0]:=aw;have h3:bh gX (bV gX (0:Nat)) 2= []:=aw;have A:∀ w f s,iq gX jF 1 w f s=nY gX jF 1 w f s:=fun w f s=>by unfold iq; rw [h1]; simp
 unfold jX;rw [h2,A];simp only [kt,Er,ez];unfold lN;rw [show eE (gX.rules.getD 0 dF) (jF.getD 1 ([],[])).1=some [103,97,115] from Y7];simp only [h3,Er,ez,A];unfold nY;rw [if_pos aw,if_pos aw];rfl
end Go.Hb
