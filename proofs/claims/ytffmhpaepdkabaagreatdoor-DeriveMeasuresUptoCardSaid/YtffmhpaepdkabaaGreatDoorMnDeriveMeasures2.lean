/-
  Walks and plain laws that the law rests on, laid together. No conditions but those that each theorem names.
-/
import Derived.Test.YtffmhpaepdkabaaGreatDoorMnDeriveMeasures1
set_option linter.unusedVariables false
set_option maxRecDepth 20000
set_option maxHeartbeats 1000000
open Array renaming foldl_toList→Mn,getElem?_eq_some_iff→cU,getElem?_setIfInBounds_ne→Mo,getElem?_setIfInBounds_self_of_lt→Mp,length_toList→vS,replicate→tS,toList_inj→zm,toList_map→nu,toList_zip→Mr
open Bool renaming and_eq_true→gT,noConfusion→ee,or_eq_false_iff→nv
open Classical renaming not_not→jk
open Except.ok renaming injEq→r8
open Go.Act renaming put_comm→r9
open Go.Calls renaming mono→lF
open Go.CallsD renaming mono→MA
open Go.CallsIn renaming mono→D4
open Go.Code renaming wp_mono→MB
open Go.Deferred renaming ofValue→qV
open Go.Extern.BytealgCount renaming count→ZK
open Go.Extern.BytealgIndexByte renaming indexByte→ZL
open Go.Extern renaming find→MG,findNext→MH
open Go.Fence renaming wide→jd
open Go.FrameMode renaming noConfusion→MI
open Go.Instr renaming beginRound→MK,checkKey→tU,field→ML,fill→oX,findKey→zq,findNow→vW,keyThatStays→D6,mapUpdate→D7,sameBits→MO,sameNow→D8,sliceAt→sc,sliceBounds→oY,sureAddr→qW,typeAssert→MP
open Go.Lib renaming indexByte→MQ,run_clear_slice→MR
open Go.Obj.cells renaming injEq→vY
open Go.Oper renaming semAt_eq→MS,semAt_none→wc,upon→k3,uponIn→qX,wp→jZ
open Go.Program renaming underlying→MT
open Go.Region renaming Mode→se,binds→j0,ready→jl
open Go.RoundIn renaming mono→Eh
open Go.Rows renaming mono→Ei
open Go.RowsIn renaming mono→Ej
open Go.Sem renaming run→zt
open Go.Value renaming ownBlock→jm,slice→bR
open Go.Value.slice renaming injEq→mQ
open Go.World renaming alloc_heap_new→zy,frozen?→M0,ownsRow→bq,putObj→M1,putObj_heap_other→om,putObj_heap_same→zz,setCell→zA,size_alloc→M2
open List.Pairwise renaming filter→ZM,imp→ZN
open List renaming append_assoc→dD,append_nil→eh,eq_nil_of_length_eq_zero→fW,ext_getElem?→p7,flatMap_cons→q7,flatMap_nil→Nc,foldl_cons→sj,getD_cons_succ→Nd,getD_cons_zero→lT,getD_eq_getElem?_getD→cR,getElem?_append_left→ml,getElem?_append_right→mS,getElem?_cons_zero→ud,getElem?_eq_getElem→cC,getElem?_eq_some_iff→fS,getElem?_map→ir,getElem?_of_mem→wq,getElem?_set→k6,getElem?_toArray→Ng,length_append→bL,length_cons→cO,length_drop→fT,length_filter_le→zE,length_map→fM,length_nil→gC,length_replicate→oo,length_take→dR,mapM_toArray→wz,map_append→iu,map_cons→uf,mem_append→jD,mem_cons→gu,mem_flatMap→zJ,mem_map→o4,mem_of_getElem?→iN,mem_or_eq_of_mem_set→Ex,mem_range→ug,mem_singleton→j5,nodup_append→Ey,not_mem_nil→uh,pairwise_lt_range→Nq,pairwise_map→Nr,range→j7,replicate→kp,size_toArray→ot,take_append→wO,take_of_length_le→eM,take_take→Nv,take_zero→ou
open Nat renaming add_sub_cancel→sr,ble→o5,blt→gD,le_refl→cA,le_trans→gk,min_eq_left→o6,mul_le_mul_right→um,mul_one→o7,zero_le→jP
open Option renaming map_eq_some_iff→pc,map_some→mm
open Option.some renaming inj→q9,injEq→fU
open Prod renaming fst→mT
open Prod.mk renaming injEq→sv
open UInt8 renaming toNat→NJ,toNat_inj→k8
open Go.Proofs.Tryz
open Go.RowKit

section
namespace Go.Hb
abbrev Tx:Type :=List UInt8
structure cX where
 flag:Nat
 kind:Nat
 ek:Bool
 first :Nat
 count:Nat
structure c7 where
 kind:Nat
 flag:Nat
 ek:Bool
 strip:Tx
 add:Tx
 cond:Tx
 next :List Nat
 line:Nat
structure aR where
 kind:Nat
 rB:Tx
 tr:Tx
 sp:List Nat
 least:Nat
 dd:List (Tx×Tx)
 aliases:List (List Nat)
 bw:List cX
 rules:List c7
def ik:Tx:= [70,76,65,71]
def iH:Tx:= [83,69,84]
def iR:Tx:= [84,82,89]
def kj:Tx:= [78,69,69,68,65,70,70,73,88]
def kG:Tx:= [70,79,82,66,73,68,68,69,78,87,79,82,68]
def kV:Tx:= [75,69,69,80,67,65,83,69]
def lu:Tx:= [67,79,77,80,79,85,78,68,70,76,65,71]
def lP:Tx:= [78,79,83,85,71,71,69,83,84]
def ki:Tx:= [67,79,77,80,79,85,78,68,77,73,78]
def ff:Tx:= [82,69,80]
def eI:Tx:= [65,70]
def fH:Tx:= [80,70,88]
def di:Tx:= [83,70,88]
def rK:Tx:= [115,104,111,114,116]
def tp:Tx:= [108,111,110,103]
def vb:Tx:= [110,117,109]
def ea:List Tx:= [kj,kG,kV,lu,lP]
def width (k:Tx):Nat:=if k∈ea∨k=ik∨k=iH∨k=iR∨k=ki∨k=ff∨k=eI then 2 else if k=fH∨k=di then 4 else 0
def gF (w:Tx):Nat:=if w= []∨gv w=false then 21 else if 32 < w.length then 22 else 0
def eA (none:Bool) (fd:Tx):Except Nat Tx:=
 if none=true∧fd= [48] then .ok []
 else if (bA fd).2.2.2≠0 then .error (bA fd).2.2.2
 else if (bA fd).2.2.1=true then .error 114
 else if gF (bA fd).1≠0 then .error (gF (bA fd).1)
 else .ok (bA fd).1
def dW (cs:List cX) (x:Nat):Option cX:=cs.find? fun c=>decide (c.flag=x)
def eG (f:aR) (x:Nat):Bool:=decide (x∈f.sp) || (dW f.bw x).isSome
noncomputable def gH (f:aR) (s:Tx):Except Nat Nat:=
 if (gN f.kind s).2≠0 then .error (gN f.kind s).2 else if eG f (gN f.kind s).1=true then .error 115 else .ok (gN f.kind s).1
noncomputable def kU (kind:Nat) (s:Tx):Except Nat (List Nat):=if (dY kind s).2≠0 then .error (dY kind s).2 else .ok (dY kind s).1
noncomputable def eX (s:Tx) (most:Int):Except Nat Nat:=if (dZ s most).2≠0 then .error 13 else .ok (dZ s most).1
noncomputable def fV (kind:Nat) (al:List (List Nat)) (s:Tx):Except Nat (List Nat):=
 if al= [] then kU kind s
 else match eX s al.length with
  | .error _=> .error 13
  | .ok n=>if n=0 then .error 13 else .ok (al.getD (n - 1) [])
noncomputable def kY (kind:Nat) (al:List (List Nat)) (a:Nat) (r:lJ):Except Nat (List Nat):=
 if r.2.2.1=true then (if a=1 then .error 118 else fV kind al r.2.1) else .ok []
def kR (row:List Tx):Except Nat Tx:=
 if row.length=5 then (if gv (row.getD 4 [])=false then .error 21 else if (c8<|row.getD 4 []).2≠0 then .error (c8<|row.getD 4 []).2 else .ok (ma (c8<|row.getD 4 []).1)) else .ok [46]
def jH (r:lJ):Except Nat Tx:=if r.2.2.2≠0 then .error r.2.2.2 else if r.1= [48] then .ok [] else if gF r.1≠0 then .error (gF r.1) else .ok r.1
noncomputable def fI (kind:Nat) (al:List (List Nat)) (c:cX) (ln:Nat) (row:List Tx):Except Nat c7:=
 if row.length≠4∧row.length≠5 then .error 111
 else match eA true (row.getD 2 []) with
  | .error e=> .error e
  | .ok st=>match jH (bA<|row.getD 3 []) with
    | .error e=> .error e
    | .ok ad=>match kY kind al c.kind (bA<|row.getD 3 []) with
      | .error e=> .error e
      | .ok nx=>match kR row with
        | .error e=> .error e
        | .ok cd=> .ok ⟨c.kind,c.flag,c.ek,st,ad,cd,nx,ln⟩
def kJ (ln:Nat) (row:List Tx):Except Nat (Tx×Tx):=
 if row.length≠3 then .error 111
 else match eA false (row.getD 1 []) with
  | .error e=> .error e
  | .ok a=>match eA true (row.getD 2 []) with
    | .error e=> .error e
    | .ok b=> .ok (a,b)
noncomputable def ku (kind:Nat) (ln:Nat) (row:List Tx):Except Nat (List Nat):=if row.length≠2 then .error 111 else kU kind (row.getD 1 [])
def group {α:Type} (hd:List Tx) (rd:Nat→List Tx→Except Nat α) (eof:Nat):Nat→List Rw→Except (Nat×Nat) (List α×List Rw)
 | 0,rows=> .ok ([],rows)
 | _+1,[]=> .error (eof,116)
 | n+1,(ln,row)::rows=>if row.take hd.length≠hd then .error (ln,116) else match rd ln row with
   | .error e=> .error (ln,e)
   | .ok x=>match group hd rd eof n rows with
     | .error e=> .error e
     | .ok r=> .ok (x::r.1,r.2)
def jw (s:Tx):Nat:=if s=rK then 1 else if s=tp then 2 else if s=vb then 3 else 0
def ordered (hs:List Tx):Bool:= !hs.any fun h=>decide (h∈ea∨h=eI∨h=fH∨h=di)
noncomputable def gM (eof:Nat) (f:aR) (rows:List Rw) (ln:Nat) (row:List Tx):Except (Nat×Nat) (aR×List Rw):=
 match gH f (row.getD 1 []) with
 | .error e=> .error (ln,e)
 | .ok x=>if row.getD 2 []≠[89]∧row.getD 2 []≠[78] then .error (ln,114)
   else match eX (row.getD 3 []) 1024 with
    | .error e=> .error (ln,e)
    | .ok n=>if 1024 < f.rules.length+n then .error (ln,117)
      else match group [row.getD 0 [],row.getD 1 []] (fI f.kind f.aliases ⟨x,if row.getD 0 []=di then 2 else 1,decide (row.getD 2 []= [89]),f.rules.length,n⟩) eof n rows with
       | .error e=> .error e
       | .ok r=> .ok ({f with bw:=f.bw++ [⟨x,if row.getD 0 []=di then 2 else 1,decide (row.getD 2 []= [89]),f.rules.length,n⟩],rules:=f.rules++r.1},r.2)
noncomputable def ko (f:aR) (rows:List Rw) (ln:Nat) (row:List Tx):Except (Nat×Nat) (aR×List Rw):=
 match gH f (row.getD 1 []) with
 | .error e=> .error (ln,e)
 | .ok x=> .ok ({f with sp:=f.sp.set (ea.idxOf<|row.getD 0 []) x},rows)
def kH (f:aR) (hs:List Tx) (rows:List Rw) (ln:Nat) (row:List Tx):Except (Nat×Nat) (aR×List Rw):=
 if ordered hs=false then .error (ln,113) else if jw (row.getD 1 [])=0 then .error (ln,114) else .ok ({f with kind:=jw<|row.getD 1 []},rows)
def mK (f:aR) (rows:List Rw) (ln:Nat) (row:List Tx):Except (Nat×Nat) (aR×List Rw):=
 if gv (row.getD 1 [])=false then .error (ln,21) else .ok ({f with rB:=row.getD 1 []},rows)
def mO (f:aR) (rows:List Rw) (ln:Nat) (row:List Tx):Except (Nat×Nat) (aR×List Rw):=
 if (letE<|row.getD 1 []).2≠0 then .error (ln,(letE<|row.getD 1 []).2) else .ok ({f with tr:=(letE<|row.getD 1 []).1},rows)
noncomputable def kX (f:aR) (rows:List Rw) (ln:Nat) (row:List Tx):Except (Nat×Nat) (aR×List Rw):=
 match eX (row.getD 1 []) 64 with
 | .error e=> .error (ln,e)
 | .ok n=>if n=0 then .error (ln,13) else .ok ({f with least:=n},rows)
noncomputable def kn (eof:Nat) (f:aR) (rows:List Rw) (ln:Nat) (row:List Tx):Except (Nat×Nat) (aR×List Rw):=
 match eX (row.getD 1 []) 256 with
 | .error e=> .error (ln,e)
 | .ok n=>match group [ff] kJ eof n rows with
   | .error e=> .error e
   | .ok r=> .ok ({f with dd:=f.dd++r.1},r.2)
noncomputable def jS (eof:Nat) (f:aR) (hs:List Tx) (rows:List Rw) (ln:Nat) (row:List Tx):Except (Nat×Nat) (aR×List Rw):=
 if fH∈hs∨di∈hs then .error (ln,113)
 else match eX (row.getD 1 []) 1024 with
  | .error e=> .error (ln,e)
  | .ok n=>match group [eI] (ku f.kind) eof n rows with
    | .error e=> .error e
    | .ok r=> .ok ({f with aliases:=f.aliases++r.1},r.2)
noncomputable def cg (eof:Nat) (f:aR) (hs:List Tx) (rows:List Rw) (ln:Nat) (row:List Tx):Except (Nat×Nat) (aR×List Rw):=
 if row.getD 0 []∈ea then ko f rows ln row
 else if row.getD 0 []=ik then kH f hs rows ln row
 else if row.getD 0 []=iH then mK f rows ln row
 else if row.getD 0 []=iR then mO f rows ln row
 else if row.getD 0 []=ki then kX f rows ln row
 else if row.getD 0 []=ff then kn eof f rows ln row
 else if row.getD 0 []=eI then jS eof f hs rows ln row
 else gM eof f rows ln row
noncomputable def gJ (eof:Nat):Nat→aR→List Tx→List Rw→Except (Nat×Nat) aR
 | 0,f,_,rows=>if rows= [] then .ok f else .error (0,0)
 | _+1,f,_,[]=> .ok f
 | k+1,f,hs,(ln,row)::rows=>
   if width (row.getD 0 [])=0 then .error (ln,110)
   else if row.length≠width (row.getD 0 []) then .error (ln,111)
   else if width (row.getD 0 [])=2∧row.getD 0 []∈hs then .error (ln,112)
   else match cg eof f hs rows ln row with
    | .error e=> .error e
    | .ok r=>gJ eof k r.1 (hs++ [row.getD 0 []]) r.2
def mF (f:aR) (x:Nat):Bool:=decide (x=f.sp.getD 0 0) || (match dW f.bw x with | some c=>decide (c.kind=2) | none=>false)
def nD (f:aR) (r:c7):Bool:=r.next.any fun x=> !mF f x
def ic:aR:=⟨1,[],[],[0,0,0,0,0],3,[],[],[],[]⟩
noncomputable def fq (t:Tx):Except (Nat×Nat) aR:=
 if 65536 < t.length then .error (0,10)
 else match gJ ((bH t).length+1) (bP t).length ic [] (bP t) with
  | .error e=> .error e
  | .ok f=>match f.rules.find? (nD f) with
    | some r=> .error (r.line,118)
    | none=> .ok f
theorem yg {α:Type} {hd:List Tx} {rd:Nat→List Tx→Except Nat α} {eof:Nat} :∀ (n:Nat) (rows:List Rw) (r:List α×List Rw),group hd rd eof n rows= .ok r→r.2.length≤rows.length∧r.1.length=n∧∀ q∈r.2,q∈rows:=by
 intro n
 induction n with
 | zero=>intro rows r h; simp only [group,r8] at h; subst h; exact ⟨cA _,rfl,fun q a=>a⟩
 | succ n i=>
   intro rows r h
   cases rows with
   | nil=>simp [group] at h
   | cons q rows=>
     obtain ⟨ln,row⟩:=q
     simp only [group] at h
     split at h
     · cases h
     · cases hr:rd ln row with
       | error e=>rw [hr] at h; cases h
       | ok x=>
         rw [hr] at h
         simp only at h
         cases hg:group hd rd eof n rows with
         | error e=>rw [hg] at h; cases h
         | ok A=>
           rw [hg] at h
           simp only [r8] at h
           subst h
           have :=i rows A hg
           refine ⟨by simp only [cO]; omega,by simp only [cO]; omega,fun q a=>List.mem_cons_of_mem _<|this.2.2 q a⟩
def iU {α:Type} (hd:List Tx) (rd:Nat→List Tx→Except Nat α) (eof:Nat) (T:Except (Nat×Nat) (List α×List Rw)) (xs:List α) (n:Nat) (rows:List Rw):Prop :=
 T=match group hd rd eof n rows with
  | .error e=> .error e
  | .ok r=> .ok (xs++r.1,r.2)
theorem iU.start {α:Type} {hd:List Tx} {rd:Nat→List Tx→Except Nat α} {eof n:Nat} {rows:List Rw} :iU hd rd eof (group hd rd eof n rows) [] n rows:=by
 unfold iU; cases group hd rd eof n rows <;> rfl
section
variable {α:Type} {hd:List Tx} {rd:Nat→List Tx→Except Nat α} {eof n:Nat} {T:Except (Nat×Nat) (List α×List Rw)} {xs:List α} {rows:List Rw} {ln:Nat} {row:List Tx}
theorem iU.ends (h:iU hd rd eof T xs n []) (hn:0 < n):T= .error (eof,116):=by
 obtain ⟨m,rfl⟩:∃ m,n=m+1:=⟨n - 1,ab⟩
 exact h
theorem iU.other (h:iU hd rd eof T xs n ((ln,row)::rows)) (hn:0 < n) (a:row.take hd.length≠hd):T= .error (ln,116):=by
 obtain ⟨m,rfl⟩:∃ m,n=m+1:=⟨n - 1,ab⟩
 unfold iU at h; simp only [group] at h; rw [if_pos a] at h; exact h
theorem iU.bad {e:Nat} (h:iU hd rd eof T xs n ((ln,row)::rows)) (hn:0 < n) (a:row.take hd.length=hd) (he:rd ln row= .error e):T= .error (ln,e):=by
 obtain ⟨m,rfl⟩:∃ m,n=m+1:=⟨n - 1,ab⟩
 unfold iU at h; simp only [group] at h; rw [if_neg (fun h2=>h2 a),he] at h; exact h
theorem iU.step {x:α} (h:iU hd rd eof T xs n ((ln,row)::rows)) (hn:0 < n) (a:row.take hd.length=hd) (he:rd ln row= .ok x):iU hd rd eof T (xs++ [x]) (n - 1) rows:=by
 obtain ⟨m,rfl⟩:∃ m,n=m+1:=⟨n - 1,ab⟩
 unfold iU at h ⊢; simp only [group] at h; rw [if_neg (fun h2=>h2 a),he] at h
 simp only [sr] at h ⊢
 rw [h]
 cases group hd rd eof m rows with
 | error e=>rfl
 | ok r=>simp only [dD]; rfl
theorem iU.done (h:iU hd rd eof T xs 0 rows):T= .ok (xs,rows):=by
 unfold iU at h; simpa [group] using h
end
end Go.Hb
end
section
set_option linter.unusedSimpArgs false
namespace Go.Hb
open Classical
structure oy (P:Program) (k:TypeId) (isK:Value→Prop):Prop where
 key:wW P k isK
 stays:∀ w v,isK v→(D6 v v).run P w= .ok v w
def ji (v:Value):Prop := ∃ s:List UInt8,v=str s
def pM (q:IntKind) (v:Value):Prop := ∃ a:Int,v= .int q a
theorem Hz {d:TypeDesc} {isK:Value→Prop} (hs:∀ x y,isK x→isK y→∃ a,D8 d x y=some a∧(a=true↔x=y)) {x:Value} (C:isK x):∀ (es:List MapEntry) (i:Nat),(∀ e∈es,isK e.key)→
 (vW d x es i=some none∧∀ e∈es,e.key≠x)∨∃ j e,vW d x es i=some (some (i+j,e.val))∧es[j]? =some e∧e.key=x
 | [],i,_=> .inl ⟨rfl,fun _ h=>by simp at h⟩
 | e::es,i,h=>by
   obtain ⟨a,h1,h2⟩:=hs x e.key C<|h e<|by simp
   cases a with
   | true =>exact .inr ⟨0,e,by simp [vW,h1],rfl,(h2.1 rfl).symm⟩
   | false =>
     have G:e.key≠x:=fun E=>by cases h2.2 E.symm
     rcases Hz hs C es (i+1) (fun e he=>h e<|by simp [he]) with ⟨h3,h4⟩ | ⟨j,q,h3,h4,h5⟩
     · refine .inl ⟨by simp [vW,h1,h3],fun q A=> ?_⟩
       rcases gu.1 A with rfl | A
       · exact G
       · exact h4 q A
     · refine .inr ⟨j+1,q,?_,h4,h5⟩
       simp only [vW,h1,h3]; rw [show i+1 +j=i+(j+1) from by omega]
theorem I9 {P:Program} {k:TypeId} {d:TypeDesc} {isK:Value→Prop} (hk:P.underlying k=some d) (hs:∀ x y,isK x→isK y→∃ a,D8 d x y=some a∧(a=true↔x=y)) (i:∀ em w v,isK v→(tU em 10000 k v).run P w= .ok () w):wW P k isK where
 check:=i
 find w x es hx hes:=by
  rcases Hz hs hx es 0 hes with ⟨h1,h2⟩ | ⟨j,e,h1,h2,h3⟩
  · exact .inl ⟨by simp [zq,eB hk,h1],h2⟩
  · exact .inr ⟨j,e,by simp [zq,eB hk,h1],h2,h3⟩
theorem Fg (a b:ByteArray):(a==b)=decide (a=b):=by
 rw [Bool.eq_iff_iff,decide_eq_true_iff]
 show ((a.data==b.data)=true)↔_
 rw [beq_iff_eq]
 exact ⟨fun h=>by cases a; cases b; cases h; rfl,fun h=>by rw [h]⟩
theorem Vb {P:Program} {k:TypeId} (hk:P.underlying k=some .string):oy P k ji where
 key:=I9 hk (by
  rintro _ _ ⟨a,rfl⟩ ⟨b,rfl⟩
  refine ⟨_,aa,?_⟩
  rw [Fg,decide_eq_true_iff]
  constructor
  · intro h; unfold str; rw [h]
  · intro h; unfold str at h; cases h; rfl) (by rintro em w _ ⟨a,rfl⟩; exact QF (n:=9999) hk w)
 stays w v hv:=by obtain ⟨a,rfl⟩:=hv; simp [D6,MO,str,Fg]
theorem QE {P:Program} {k:TypeId} {q r:IntKind} {em:Bool} {n:Nat} {a:Int} (hk:P.underlying k=some (.int q)) (w:World):(tU em (n+1) k<|.int r a).run P w= .ok () w:=by
 simp only [tU,Sem.run_bind,eB hk,Result.andThen_ok,Sem.run_pure]
theorem Va {P:Program} {k:TypeId} {q r:IntKind} (hk:P.underlying k=some (.int q)):oy P k (pM r) where
 key:=I9 hk (by
  rintro _ _ ⟨a,rfl⟩ ⟨b,rfl⟩
  refine ⟨decide (a=b),by simp [D8]; rfl,?_⟩
  rw [decide_eq_true_iff]
  exact ⟨fun h=>by rw [h],fun h=>by cases h; rfl⟩) (by rintro em w _ ⟨a,rfl⟩; exact QE (n:=9999) hk w)
 stays w v hv:=by obtain ⟨a,rfl⟩:=hv; simp [D6,MO]
def dp (h:Array Obj) (b:Nat) (isK:Value→Prop) (f:Value→Option Value):Prop :=
 ∃ kvs,rk h b kvs∧(∀ p∈kvs,isK p.1)∧(kvs.map mT).Nodup∧∀ k v,f k=some v↔(k,v)∈kvs
theorem dp.md {F:Nat→Prop} {w w':World} {b:Nat} {isK:Value→Prop} {f:Value→Option Value} (h:dp w.heap b isK f) (hm:Md F w w') (a:¬F b):dp w'.heap b isK f:=
 let ⟨kvs,h1,h2⟩:=h; ⟨kvs,h1.md hm a,h2⟩
theorem dp.wk {w w':World} {b:Nat} {isK:Value→Prop} {f:Value→Option Value} (h:dp w.heap b isK f) (hm:Wk w w'):dp w'.heap b isK f:=h.md hm id
theorem dp.nil {h:Array Obj} {b:Nat} {isK:Value→Prop} {c:Nat} (hm:h[b]? =some (.map #[] c)):dp h b isK fun _=>none:=
 ⟨[],⟨_,_,hm,rfl⟩,fun p hp=>(by simp at hp),(by simp),fun k v=>by simp⟩
theorem dp.isMap {h:Array Obj} {b:Nat} {isK:Value→Prop} {f:Value→Option Value} (hm:dp h b isK f):∃ es c,h[b]? =some (.map es c):=let ⟨_,⟨es,c,h1,_⟩,_⟩:=hm; ⟨es,c,h1⟩
theorem dp.pN {h:Array Obj} {b:Nat} {isK:Value→Prop} {f:Value→Option Value} (hm:dp h b isK f) {cur:Array Value} {e:TypeId} {z:Nat×Nat} :h[b]?≠some (.cells cur e z):=by
 obtain ⟨es,c,h1⟩:=hm.isMap; rw [h1]; intro h; cases h
noncomputable def bU (f:Value→Option Value) (k v:Value):Value→Option Value:=fun q=>if q=k then some v else f q
theorem vq (f:Value→Option Value) (k v:Value):bU f k v k=some v:=if_pos rfl
theorem tx {f:Value→Option Value} {k v q:Value} (h:q≠k):bU f k v q=f q:=if_neg h
section
variable {P:Program} {N:Fm} {σ:Nat→Value} {w:World} {dst:Option Nat} {ty:TypeId} {pos :String} {af:Array Edge} {g:Option (Nat×Bool)} {x y z:Operand} {K:(Nat→Value)→World→Prop}
variable {t k e:TypeId} {isK:Value→Prop} {b:Nat} {f:Value→Option Value} {kx v zv:Value}
theorem Jl {ok:Bool} (q:P.underlying t=some (.map k e)) (E:zeroV P e=some zv) (i:oy P k isK) (hm:dp w.heap b isK f) (A:ev N σ x= .map (some b)) (C:ev N σ y=kx) (hi:isK kx):
 (execOp (ev N σ) ⟨dst,.lookup t x y ok,ty,pos,af,g⟩).run P w= .ok (.value (if ok then .tuple #[(f kx).getD zv,.bool (f kx).isSome] else (f kx).getD zv)) w:=by
 obtain ⟨kvs,h1,h2,h3,h4⟩:=hm
 cases hf:f kx with
 | none=>exact Vr q E i.key h1 h2 A C hi fun v a=>by rw [← h4] at a; rw [hf] at a; cases a
 | some v=>exact Vq q i.key h1 h2 A C hi h3<|(h4 kx v).1 hf
theorem oL (i:P.underlying t=some (.map k e)) (E:zeroV P e=some zv) (a:oy P k isK) (hm:dp w.heap b isK f) (A:ev N σ x= .map (some b)) (C:ev N σ y=kx) (hi:isK kx) (q:(f kx).getD zv=v):
 (execOp (ev N σ) ⟨dst,.lookup t x y false,ty,pos,af,g⟩).run P w= .ok (.value v) w:=by
 rw [Jl i E a hm A C hi,q]; rfl
theorem Jm {ob:Bool} (q:P.underlying t=some (.map k e)) (G:zeroV P e=some zv) (a:oy P k isK) (hm:dp w.heap b isK f) (C:ev N σ x= .map (some b)) (E:ev N σ y=kx) (hi:isK kx) (A:(f kx).getD zv=v) (i:(f kx).isSome=ob):
 (execOp (ev N σ) ⟨dst,.lookup t x y true,ty,pos,af,g⟩).run P w= .ok (.value<|.tuple #[v,.bool ob]) w:=by
 rw [Jl q G a hm C E hi,A,i]; rfl
theorem LQ (ae:P.underlying t=some (.map k e)) (M:oy P k isK) (hm:dp w.heap b isK f) (hi:isK kx):
 ∃ w',(D7 t (.map<|some b) kx v).run P w= .ok () w'∧Md (fun j=>j=b) w w'∧dp w'.heap b isK (bU f kx v):=by
 obtain ⟨kvs,⟨es,c,J,he⟩,h2,h3,h4⟩:=hm
 have V:=(cU.1 J).1
 rcases M.key.find w kx es.toList hi (Bo he h2) with ⟨h1,an⟩ | ⟨j,U,h1,E,h5⟩
 · have ac:∀ u,(kx,u)∉kvs:=fun u hu=>by
    rw [← he] at hu
    obtain ⟨ag,ak,ah⟩:=o4.1 hu
    cases ah
    exact an ag ak aa
   refine ⟨{w with heap:=w.heap.setIfInBounds b<|.map (es.push {key:=kx,val:=v,born:=c})<|c+1},by simp [D7,eB ae,run_getObj_map J,M.key.check _ w kx hi,h1,setObj,zt,J],⟨aa,aa,by simp,fun i _ G=>by simp only; rw [Mo (fun e=>G e.symm)]⟩,kvs++ [(kx,v)],⟨_,_,by simp only; rw [Mp V],by simp [he]⟩,?_,?_,?_⟩
   · intro p hp
     rcases jD.1 hp with hp | hp
     · exact h2 p hp
     · rw [j5.1 hp]; exact hi
   · rw [iu,Ey]
     refine ⟨h3,by simp,?_⟩
     intro a ai ap Y aj
     simp at Y
     subst aj Y
     obtain ⟨p,hp,ao⟩:=o4.1 ai
     exact ac p.2<|by rw [← ao]; exact hp
   · intro q u
     unfold bU
     rw [jD,j5]
     by_cases C:q=kx
     · subst C
       rw [if_pos rfl]
       constructor
       · intro h; cases h; exact .inr rfl
       · rintro (h | h)
         · exact absurd h<|ac u
         · cases h; rfl
     · rw [if_neg C,h4]
       constructor
       · exact .inl
       · rintro (h | h)
         · exact h
         · cases h; exact absurd rfl C
 · have aq:j < es.size:=by have :=(fS.1 E).1; simpa using this
   have Z:es[j]? =some U:=by simpa using E
   refine ⟨{w with heap:=w.heap.setIfInBounds b<|.map (es.modify j fun e=> {e with key:=kx,val:=v}) c},?_,⟨aa,aa,by simp,fun i _ G=>by simp only; rw [Mo (fun e=>G e.symm)]⟩,kvs.set j (kx,v),⟨_,_,by simp only; rw [Mp V],?_⟩,?_,?_,?_⟩
   · have hs:=M.stays w kx hi
     simp [D7,eB ae,run_getObj_map J,M.key.check _ w kx hi,h1,Z,h5,hs,setObj,zt,J]
   · rw [← he]
     apply p7
     intro i
     simp only [Array.toList_modify,ir,List.getElem?_modify,k6,fM]
     by_cases I:j=i
     · subst I; rw [E]; simp; have :=(fS.1 E).1; simpa using this
     · simp [I]
   · intro p hp
     rcases Ex hp with hp | hp
     · exact h2 p hp
     · rw [hp]; exact hi
   · have :(kvs.set j (kx,v)).map mT=kvs.map mT:=by
      apply p7
      intro i
      simp only [ir,k6]
      by_cases I:j=i
      · subst I
        rw [← he]; simp only [ir,E,fM]
        have :=(fS.1 E).1
        simp [this,h5]
        simpa using this
      · simp [I]
     rw [this]; exact h3
   · intro q u
     have O:kvs[j]? =some (kx,U.val):=by rw [← he]; simp [E,h5,Z]
     have ab:=(fS.1 O).1
     have am:(kx,v)∈kvs.set j (kx,v):=iN (i:=j)<|by rw [k6,if_pos rfl,if_pos ab]
     unfold bU
     by_cases C:q=kx
     · subst C
       rw [if_pos rfl]
       constructor
       · intro h; cases h; exact am
       · intro h
         obtain ⟨i,A⟩:=wq h
         rw [k6] at A
         split at A
         · rename_i al
           subst al
           cases A; rfl
         · rename_i G
           exfalso
           exact G<|(List.getElem?_inj (i:=j) (j:=i) (by simpa using ab) h3).1<|by simp [O,A]
     · rw [if_neg C,h4]
       constructor
       · intro h
         obtain ⟨i,A⟩:=wq h
         have G:j≠i:=by rintro rfl; rw [O] at A; cases A; exact C rfl
         exact iN (i:=i)<|by rw [k6,if_neg G]; exact A
       · intro h
         rcases Ex h with h | h
         · exact h
         · cases h; exact absurd rfl C
theorem tJ (q:P.underlying t=some (.map k e)) (a:oy P k isK) (hm:dp w.heap b isK f) (A:ev N σ x= .map (some b)) (C:ev N σ y=kx) (E:ev N σ z=v) (hi:isK kx)
 (G:∀ w',Md (fun j=>j=b) w w'→dp w'.heap b isK (bU f kx v)→K σ w'):dP P N ⟨none,.mapUpdate t x y z,ty,pos,af,g⟩ σ w K:=by
 obtain ⟨w',h1,h2,h3⟩:=LQ (v:=v) q a hm hi
 have i:(execOp (ev N σ) ⟨none,.mapUpdate t x y z,ty,pos,af,g⟩).run P w= .ok .skip w':=by
  simp [execOp,A,C,E,h1]
 unfold dP jZ
 rw [ib,i]
 exact ⟨σ,aa,G w' h2 h3⟩
theorem mD (q:P.underlying t=some (.map k e)) (a:oy P k isK) (hm:dp w.heap b isK f) (A:ev N σ x= .map (some b)) (C:ev N σ y=kx) (E:ev N σ z=v) (hi:isK kx)
 (G:∀ w',Md (fun j=>j=b) w w'→dp w'.heap b isK (bU f kx v)→K σ w'):dP P N ⟨none,.insert t x y z,ty,pos,af,g⟩ σ w K:=by
 obtain ⟨w',h1,h2,h3⟩:=LQ (v:=v) q a hm hi
 have i:(execOp (ev N σ) ⟨none,.insert t x y z,ty,pos,af,g⟩).run P w= .ok .skip w':=by
  simp [execOp,A,C,E,h1]
 unfold dP jZ
 rw [ib,i]
 exact ⟨σ,aa,G w' h2 h3⟩
end
end Go.Hb
end
section
namespace Go.Hb
section
variable {P:Program} {N:Fm} {σ:Nat→Value} {w:World} {fn:Func} {R:Value→World→Prop}
theorem Vx {t b off :Nat} {v:Value} (hu:dw P t=some none) (a:Hb.aO w.heap b off =some v):(loadVar t ⟨b,off,none⟩).run P w= .ok v w:=by
 have i:w.cell? ⟨b,off,none⟩=some v:=by rw [nG]; exact a
 unfold dw at hu
 cases hd:P.underlying t with
 | none=>rw [hd] at hu; cases hu
 | some d=>
   rw [hd] at hu
   cases d <;> first
    | (simp only [pc] at hu; obtain ⟨_,_,h⟩:=hu; cases h; done)
    | simp [loadVar,isAgg,eB hd,run_load,i]
theorem Vy {t n b off :Nat} {cs:List Value} (hu:dw P t=some (some n)) (C:cs.length=n) (q:∀ j,j < n→Hb.aO w.heap b (off+j)=cs[j]?):(loadVar t ⟨b,off,none⟩).run P w= .ok (.agg cs.toArray) w:=by
 have A:(loadCells ⟨b,off,none⟩ n).run P w= .ok cs.toArray w:=by
  subst C
  refine run_loadCells_list (P:=P) w ⟨b,off,none⟩ cs fun j v a=> ?_
  rw [mu,nG]
  exact (q j (fS.1 a).1).trans a
 unfold dw at hu
 cases hd:P.underlying t with
 | none=>rw [hd] at hu; cases hu
 | some d=>
   rw [hd] at hu
   cases hi:P.info? t with
   | none=>simp [MT,hi] at hd
   | some i=>
     rw [hi] at hu
     cases d <;> first
      | (cases hu; done)
      | (simp only [mm,fU] at hu; subst hu
         simp [loadVar,isAgg,eB hd,sizeOf,ja hi,A])
def kO (P:Program) (N:Fm) (σ:Nat→Value) (w:World):ResultVar→Value→Prop
 | .tmp t,v=>ev N σ (.tmp t)=v
 | .cell a t,v=> ∃ ad,ev N σ (.tmp a)= .pointer (some ad)∧(loadVar t ad).run P w= .ok v w
theorem eb {t:Tmp} :kO P N σ w (.tmp t) (ev N σ<|.tmp t):=rfl
theorem jN {a t b off :Nat} {v:Value} (q:ev N σ (.tmp a)= .pointer (some ⟨b,off,none⟩)) (hu:dw P t=some none) (i:Hb.aO w.heap b off =some v):kO P N σ w (.cell a t) v:=⟨_,q,Vx hu i⟩
theorem dN {a t n b off :Nat} {cs:List Value} (A:ev N σ (.tmp a)= .pointer (some ⟨b,off,none⟩)) (hu:dw P t=some (some n)) (q:cs.length=n) (i:∀ j,j < n→Hb.aO w.heap b (off+j)=cs[j]?):kO P N σ w (.cell a t) (.agg cs.toArray):=⟨_,A,Vy hu q i⟩
def oP (tmps:Array Value):ResultVar→Sem Value
 | .tmp t=>pure<|tmps.getD t undef
 | .cell a t=>do loadVar t (← asAddr (tmps.getD a undef))
theorem kK {r:ResultVar} {v:Value} (h:kO P N σ w r v):(oP (act N σ).tmps r).run P w= .ok v w:=by
 cases r with
 | tmp t=>
   show zt P (pure<|(act N σ).tmps.getD t undef) w=_
   rw [mN]; simp only [kO] at h; rw [h]; rfl
 | cell a t=>
   obtain ⟨ad,h1,h2⟩:=h
   show zt P (do loadVar t (← asAddr ((act N σ).tmps.getD a undef))) w=_
   rw [mN,h1]
   simp [asAddr,h2]
theorem Xt {tmps:Array Value} {r:ResultVar} {v:Value} (h:fn.results= #[r]) (h1:(oP tmps r).run P w= .ok v w):(results fn tmps).run P w= .ok v w:=by
 have a:(results fn tmps)=(do let vs ← #[r].mapM (oP tmps); pure (if h:vs.size=1 then vs[0] else .tuple vs)):=by
  unfold results; rw [h]; rfl
 rw [a]; simp [wz,h1]
theorem yL {tmps:Array Value} {r s:ResultVar} {v u:Value} (h:fn.results= #[r,s]) (h1:(oP tmps r).run P w= .ok v w) (h2:(oP tmps s).run P w= .ok u w):(results fn tmps).run P w= .ok (.tuple #[v,u]) w:=by
 have a:(results fn tmps)=(do let vs ← #[r,s].mapM (oP tmps); pure (if h:vs.size=1 then vs[0] else .tuple vs)):=by
  unfold results; rw [h]; rfl
 rw [a]; simp [wz,h1,h2]
theorem Dh {tmps:Array Value} {r s q:ResultVar} {v u z:Value} (h:fn.results= #[r,s,q]) (h1:(oP tmps r).run P w= .ok v w) (h2:(oP tmps s).run P w= .ok u w) (h3:(oP tmps q).run P w= .ok z w):(results fn tmps).run P w= .ok (.tuple #[v,u,z]) w:=by
 have a:(results fn tmps)=(do let vs ← #[r,s,q].mapM (oP tmps); pure (if h:vs.size=1 then vs[0] else .tuple vs)):=by
  unfold results; rw [h]; rfl
 rw [a]; simp [wz,h1,h2,h3]
theorem uK {r:ResultVar} {v:Value} (h:fn.results= #[r]) (h1:kO P N σ w r v) (a:R v w):fin P fn N R .ret σ w:=⟨v,Xt h (kK h1),a⟩
theorem ew {r s:ResultVar} {v u:Value} (h:fn.results= #[r,s]) (h1:kO P N σ w r v) (h2:kO P N σ w s u) (a:R (.tuple #[v,u]) w):fin P fn N R .ret σ w:=⟨_,yL h (kK h1) (kK h2),a⟩
theorem Hs {r s q:ResultVar} {v u z:Value} (h:fn.results= #[r,s,q]) (h1:kO P N σ w r v) (h2:kO P N σ w s u) (h3:kO P N σ w q z) (a:R (.tuple #[v,u,z]) w):fin P fn N R .ret σ w:=⟨_,Dh h (kK h1) (kK h2) (kK h3),a⟩
end
end Go.Hb
end
section
namespace Go.Hb
def oa (P:Program) (N:Fm) (c:Code) (B:Exit→Act→World→Prop) (σ:Nat→Value) (w:World):Prop :=c.wpIn (fe N.r) 0 P B (act N σ) w
def qb (N:Fm) (B:Exit→Act→World→Prop):Exit→(Nat→Value)→World→Prop :=fun e σ w=>B e (act N σ) w
section
variable {P:Program} {N:Fm} {B:Exit→Act→World→Prop} {σ:Nat→Value} {w:World}
theorem et {x y:Code} (h:oa P N x (Exit.then (y.wpIn (fe N.r) 0 P B) B) σ w):oa P N (.seq x y) B σ w:=wpIn_seq h
theorem eo {y:Code} (h:oa P N y B σ w):qb N (Exit.then (y.wpIn (fe N.r) 0 P B) B) .normal σ w:=h
theorem prt {y:Act→World→Prop} (h:qb N B .ret σ w):qb N (Exit.then y B) .ret σ w:=h
theorem rT (h:qb N B .ret σ w):oa P N .ret B σ w:=wpIn_ret h
theorem eW {c:Code} (h:dO P N c (qb N B) σ w):oa P N c B σ w:=by
 unfold dO at h
 refine wpIn_mono h ?_
 intro e a w i
 cases e with
 | panic c=>obtain ⟨σ,rfl,q⟩:=i; exact q σ fun _ _=>rfl
 | outgrown=>exact i.elim
 | _=>obtain ⟨σ,rfl,q⟩:=i; exact q
end
theorem yP (fn:Func) (args:List Value) (F:List Nat) (hn:o5 args.length fn.ntmps=true):({tmps:=args.toArray++tS (fn.ntmps - args.toArray.size) undef,defers:= []} :Act)=act ⟨fn.ntmps,[],F,none⟩ (mL args):=by
 have a:args.length≤fn.ntmps:=by simpa using hn
 refine xa aa fun i=> ?_
 rw [pq]
 simp only [mL,cR,ot]
 by_cases h1:i < args.length
 · rw [Array.getElem?_append_left (by simpa using h1),if_pos ab]
   simp [h1]
 · rw [Array.getElem?_append_right (by simpa using h1)]
   simp only [ot,Array.getElem?_replicate]
   by_cases h2:i < fn.ntmps
   · rw [if_pos ab,if_pos h2,List.getElem?_eq_none ab]; rfl
   · rw [if_neg ab,if_neg h2]
abbrev Bm (P:Program) (fn:Func) (R:Value→World→Prop):Exit→Act→World→Prop :=bodyPostM jd 0 P fn (fun e w'=> ∃ v,e= .returned v∧R v w')
theorem uI {P:Program} {f:FuncId} {N:Nat} {fn:Func} {c:Code} {args:List Value} {w:World} {R:Value→World→Prop} (F:List Nat) (q:P.funcs[f]? =some fn) (i:fn.body=some c)
 (a:fn.ntmps=N) (hn:o5 args.length N=true) (h:oa P ⟨N,[],F,none⟩ c (Bm P fn R) (mL args) w):bm P f args.toArray w R:=by
 subst a
 refine callsIn_wide.1<|callsIn_of_wp_marks (F:=jd) (n:=0) q i trivial ?_
 rw [yP fn args F hn]
 exact h
section
variable {P:Program} {n:Nat} {F:List Nat} {σ:Nat→Value} {w:World} {fn:Func} {R:Value→World→Prop}
theorem Cw {e:Exit} (he:e= .ret∨e= .normal) {v:Value} (i:(results fn (act ⟨n,[],F,none⟩ σ).tmps).run P w= .ok v w) (a:R v w):qb ⟨n,[],F,none⟩ (Bm P fn R) e σ w:=by
 rcases he with rfl | rfl <;> exact ⟨v,i,v,rfl,a⟩
theorem SQ {t:Nat} {v:Value} (h:fn.results= #[.tmp t]) (i:ev ⟨n,[],F,none⟩ σ (.tmp t)=v) (a:R v w):qb ⟨n,[],F,none⟩ (Bm P fn R) .ret σ w:=
 Cw (.inl rfl) (by rw [results_tmp h,mN,i]) a
theorem Hq {t u:Nat} {v a:Value} (h:fn.results= #[.tmp t,.tmp u]) (q:ev ⟨n,[],F,none⟩ σ (.tmp t)=v) (hu:ev ⟨n,[],F,none⟩ σ (.tmp u)=a) (i:R (.tuple #[v,a]) w):qb ⟨n,[],F,none⟩ (Bm P fn R) .ret σ w:=
 Cw (.inl rfl) (by rw [results_tmp2 h,mN,mN,q,hu]) i
theorem Jg {D:Nat} {v:Value} (a:w.heap[D]? =some (.deferred<|some [])) (q:∀ w',(results fn (act ⟨n,[{target:= .collected D,args:= #[]}],F,none⟩ σ).tmps).run P w'= .ok v w') (i:R v (w.putObj D<|.deferred none)):
 qb ⟨n,[{target:= .collected D,args:= #[]}],F,none⟩ (Bm P fn R) .ret σ w:=
 ⟨MI,.inl ⟨_,_,rfl,run_takeDeferred a,⟨v,q _,v,rfl,i⟩⟩⟩
theorem Hp {D t:Nat} {v:Value} (h:fn.results= #[.tmp t]) (q:ev ⟨n,[{target:= .collected D,args:= #[]}],F,none⟩ σ (.tmp t)=v) (a:w.heap[D]? =some (.deferred<|some [])) (i:R v (w.putObj D<|.deferred none)):
 qb ⟨n,[{target:= .collected D,args:= #[]}],F,none⟩ (Bm P fn R) .ret σ w:=
 Jg a (fun w'=>by rw [results_tmp h,mN,q]) i
theorem Hr {D t u:Nat} {v a:Value} (h:fn.results= #[.tmp t,.tmp u]) (A:ev ⟨n,[{target:= .collected D,args:= #[]}],F,none⟩ σ (.tmp t)=v) (hu:ev ⟨n,[{target:= .collected D,args:= #[]}],F,none⟩ σ (.tmp u)=a)
 (i:w.heap[D]? =some (.deferred<|some [])) (q:R (.tuple #[v,a]) (w.putObj D<|.deferred none)):qb ⟨n,[{target:= .collected D,args:= #[]}],F,none⟩ (Bm P fn R) .ret σ w:=
 Jg i (fun w'=>by rw [results_tmp2 h,mN,mN,A,hu]) q
end
theorem dC {w:World} {B t size n pp a:Nat} {v:Value} {xs:List Value} {cs:Array Value} {z:Nat×Nat} (h:w.ownsRow B t size v n xs) (hp:w.heap[pp]? =some (.cells cs a z)) (q:t≠a):v.ownBlock≠some pp:=by
 intro hk
 rcases h.2 with ⟨h1,_⟩ | ⟨g,cap,cur,h1,_,i,_⟩
 · rw [h1] at hk; simp [jm] at hk
 · rw [h1] at hk
   simp only [jm,fU] at hk
   subst hk
   rw [i] at hp
   simp only [fU,vY] at hp
   exact q hp.2.1
section
variable {P:Program} {N:Fm} {σ:Nat→Value} {w:World} {dst:Option Nat} {ty:TypeId} {pos :String} {af:Array Edge} {g:Option (Nat×Bool)} {x:Operand} {K:(Nat→Value)→World→Prop}
theorem rv {e:TypeId} {v:Value} (a:ev N σ x=v) (h1:v.oneCell'=true) (k:∀ b w',b=w.heap.size→Nw w w'→w'.heap[b]? =some (.cells [v].toArray e (0,0))→K (iL σ dst<|.pointer<|some ⟨b,0,none⟩) w'):
 dP P N ⟨dst,.box e x,ty,pos,af,g⟩ σ w K:=by
 refine oT (v:=fun b=> .pointer<|some ⟨b,0,none⟩) (ob:= .cells [v].toArray e (0,0)) ?_ k
 have :=qK h1
 simp [execOp,Instr.box,a,this,newVar,newRow]
end
theorem lz (w:World) (k:Nat) (o:Obj):Md (fun j=>j=k) w (w.putObj k o):=
 ⟨rfl,rfl,by simp [M1],fun j _ a=>om a⟩
def fO (w w':World):Prop := ∀ (k:Nat) (o:Obj),w.heap[k]? =some o→(∀ cur e z,o≠.cells cur e z)→w'.heap[k]? =some o
theorem fO.trans {a b c:World} (h:fO a b) (i:fO b c):fO a c:=fun k o q hn=>i k o (h k o q hn) hn
theorem fO.md {F:Nat→Prop} {w w':World} (hm:Md F w w') (i:∀ k,F k→∃ cur e z,w.heap[k]? =some (.cells cur e z)):fO w w':=fun k o a hn=>by
 rw [hm.cx k (cU.1 a).1 (fun hk=>by obtain ⟨c,e,z,h⟩:=i k hk; rw [a] at h; exact hn _ _ _<|q9 h)]; exact a
theorem fO.wk {w w':World} (hm:Wk w w'):fO w w':=fO.md hm fun _ h=>h.elim
theorem pQ {w:World} {B e size n:Nat} {v:Value} {xs:List Value} (h:w.ownsRow B e size v n xs):∀ k,v.ownBlock=some k→∃ cur e z,w.heap[k]? =some (.cells cur e z):=by
 intro k hk
 rcases h.2 with ⟨rfl,_⟩ | ⟨g,cap,i,rfl,_,a,_⟩
 · simp [jm] at hk
 · simp only [jm,fU] at hk; subst hk; exact ⟨_,_,_,a⟩
def NV {α:Type} (B:Nat) (a:List α→World→Prop):Prop := ∀ pre W W' (F:Nat→Prop),a pre W→Md F W W'→(∀ k,F k→B≤k∧∀ cur e z,W.heap[k]?≠some (.cells cur e z))→a pre W'
section
variable {F:Nat→Prop} {W W':World} {B:Nat}
theorem y0 {b e:Nat} {cs:Array Value} {z:Nat×Nat} (h:W.heap[b]? =some (.cells cs e z)) (hm:Md F W W') (a:∀ k,F k→B≤k∧∀ cur e z,W.heap[k]?≠some (.cells cur e z)):W'.heap[b]? =some (.cells cs e z):=by
 rw [hm.cx b (cU.1 h).1 (fun hk=>(a b hk).2 _ _ _ h)]; exact h
theorem Lk {B' e size n:Nat} {v:Value} {xs:List Value} (h:W.ownsRow B' e size v n xs) (hm:Md F W W') (a:∀ k,F k→B≤k∧∀ cur e z,W.heap[k]?≠some (.cells cur e z)):W'.ownsRow B' e size v n xs:=
 dq h hm fun k hk i=>by obtain ⟨c,e,z,h1⟩:=pQ h k hk; exact (a k i).2 _ _ _ h1
theorem Ll {w:World} (h:Wk w W) (hm:Md F W W') (q:w.heap.size≤B) (a:∀ k,F k→B≤k∧∀ cur e z,W.heap[k]?≠some (.cells cur e z)):Wk w W':=Md.trans' h hm fun k hk i=>by have :=(a k i).1; omega
end
def EE {α:Type} (P:Program) (E:Nat) (G:Array Value) (C:α→Array Value) (xs:List α) (A:World→Prop):Prop :=
 ∀ (l:Nat) (a:List α→World→Prop) (W:World),a [] W→(∀ pre W,a pre W→A W)→(∀ pre i q,a pre i→Wk i q→a pre q)→
   (∀ pre x rest i,xs=pre++x::rest→a pre i→YieldAt jd 0 P l (C x) i fun e W'=>e= .returned (.bool true)∧a (pre++ [x]) W')→
   Calls P E (#[.func (.yield l) #[] #[]]++G) W fun e W'=>(∃ v,e= .returned v)∧a xs W'
def Xl (R:World→Prop):Exit→(Nat→Value)→World→Prop
 | .normal,_,w=>R w
 | _,_,_=>False
theorem EH (N:Fm):∀ (l:List (Tmp×Value)) (σ:Nat→Value),l.foldl (fun t p=>t.setIfInBounds p.1 p.2) (act N σ).tmps=(act N<|l.foldl (fun s p=>dy s p.1 p.2) σ).tmps:=by
 intro l
 induction l with
 | nil=>intro σ; rfl
 | cons p l a=>
   intro σ
   rw [sj,sj,← a]
   congr 1
   have :=congrArg Act.tmps<|jG N σ (some p.1) p.2
   exact this
theorem KA {α:Type} {P:Program} {id n:Nat} {g:Operand} {ps:Array Tmp} {Z body:Code} {U:List Nat} {σ:Nat→Value} {w:World} {B:Exit→Act→World→Prop} {V:Nat} {Y:Array Value}
 (J:α→Array Value) (xs:List α) (aj:World→Prop) (i:List α→World→Prop) (aD:ev ⟨n,[],U,none⟩ σ g= .func (.func V) #[] Y) (aA:bl P V) (aK:∀ x,(J x).size=ps.size)
 (aF:EE P V Y J xs aj) (au:i [] w) (aB:∀ pre W,i pre W→aj W) (ac:NV w.heap.size i) (ap:α→Nat→Value)
 (ay:∀ (l:Nat) (x:α) (W:World) (K:(Nat→Value)→World→Prop),K (ap x) W→dO P ⟨n,[],[],some l⟩ Z (lS K fun _ _ _=>False) ((ps.toList.zip (J x).toList).foldl (fun s p=>dy s p.1 p.2) σ) W)
 (az:∀ (l:Nat) (pre:List α) (x:α) (rest:List α) (W:World),xs=pre++x::rest→i pre W→dO P ⟨n,[],[],some l⟩ body (Xl fun W'=>fO W W'∧i (pre++ [x]) W') (ap x) W)
 (hd:∀ (D:Nat) (W:World),w.heap.size≤D→i xs W→W.heap[D]? =some (.deferred<|some [])→qb ⟨n,[{target:= .collected D,args:= #[]}],U,none⟩ B .normal σ W):
 oa P ⟨n,[],U,none⟩ (.block id<|.rangeFunc g ps Z body) B σ w:=by
 refine wpIn_block<|wpIn_rangeFunc ?_
 intro fn _
 obtain ⟨rc,O⟩:∃ rc:LoopState→Option Code→Loop,rc=fun st aN=> {state:=st,pending:=aN,fn,tmps:=(act ⟨n,[],U,none⟩ σ).tmps,params:=ps,assign:=Z,body,defers:=w.heap.size} :=⟨_,rfl⟩
 obtain ⟨q,ae⟩:∃ q,(w.alloc<|.deferred<|some []).alloc (.loop<|rc .ready none)=q:=⟨_,rfl⟩
 have ax:q.heap[w.heap.size+1]? =some (.loop<|rc .ready none):=by
  rw [← ae]; have :=zy (w.alloc<|.deferred<|some []) (.loop<|rc .ready none); rwa [M2] at this
 have aw:q.heap[w.heap.size]? =some (.deferred<|some []):=by
  rw [← ae]; exact (Below.heap_alloc _ _ _<|by simp).trans<|zy w _
 have hn:∀ (W:World) (o:Obj),Wk W (W.alloc o):=fun W o=>(CN W o).md
 have av:i [] q:=by rw [← ae]; exact ac _ _ _ _ (ac _ _ _ _ au (hn _ _) fun _ h=>h.elim) (hn _ _) fun _ h=>h.elim
 have aC:(act ⟨n,[],U,none⟩ σ).eval g= .func (.func V) #[] Y:=by rw [ib]; exact aD
 refine ⟨w.heap.size+1,[{target:= .collected w.heap.size,args:= #[]}],q,{target:= .fn (.func V) Y,args:= #[.func (.yield<|w.heap.size+1) #[] #[]]},q,V,
  #[.func (.yield<|w.heap.size+1) #[] #[]]++Y,q,?_,?_,fun _ _=>trivial,?_,fun ar=>(by cases ar),?_⟩
 · rw [← ae,O]; exact run_enterLoop_outer _ _ _ _ _
 · simp only [resolve,aC]
   simp [go_sem]
 · have :=aA (#[.func (.yield<|w.heap.size+1) #[] #[]]++Y) q
   simp [invoke,go_sem,this]
 · have ah:∀ (pre:List α) (W:World) (o ai:Obj),i pre W→W.heap[w.heap.size+1]? =some o→(∀ cur e z,o≠.cells cur e z)→i pre (W.putObj (w.heap.size+1) ai):=fun pre W o ai h1 h2 h3=>
    ac _ _ _ _ h1 (lz W _ ai) fun k hk=>⟨ab,fun cur e z h4=>by subst hk; rw [h2] at h4; exact h3 _ _ _<|q9 h4⟩
   refine callsIn_wide.2 (lF (aF (w.heap.size+1)
    (fun pre W=>i pre W∧W.heap[w.heap.size+1]? =some (.loop<|rc .ready none)∧W.heap[w.heap.size]? =some (.deferred<|some []))
    q ⟨av,ax,aw⟩ (fun pre W h=>aB pre W h.1)
    (fun pre A C h hm=>⟨ac _ _ _ _ h.1 hm (fun _ h=>h.elim),(hm.cx _ (cU.1 h.2.1).1 fun h=>h).trans h.2.1,(hm.cx _ (cU.1 h.2.2).1 fun h=>h).trans h.2.2⟩) ?_) ?_)
   · rintro pre x rest W aM ⟨hi,M,hk⟩
     have aJ:w.heap.size+1 < W.heap.size:=(cU.1 M).1
     have an:=run_yield (P:=P) (args:=J x) M<|by rw [O]; exact aK x
     rw [O] at an
     refine ⟨fn,_,Z,body,an,roundIn_of_wpIn (F:=jd) trivial ?_⟩
     have aL:((ps.zip<|J x).foldl (fun tmps (p:Tmp×Value)=>tmps.setIfInBounds p.1 p.2) (act ⟨n,[],U,none⟩ σ).tmps)=(act ⟨n,[],[],some<|w.heap.size+1⟩<|(ps.toList.zip (J x).toList).foldl (fun s p=>dy s p.1 p.2) σ).tmps:=by
      rw [← Mn,Mr]
      exact EH ⟨n,[],[],some<|w.heap.size+1⟩ _ σ
     have h1:=ay (w.heap.size+1) x W (fun I W'=> ∃ ao,(MK<|w.heap.size+1).run P W'= .ok () ao∧
      body.wpIn (jd.inRound<|w.heap.size+1) 0 P (roundPost P (w.heap.size+1) fun e W'=>e= .returned (.bool true)∧i (pre++ [x]) W'∧W'.heap[w.heap.size+1]? =some (.loop<|rc .ready none)∧W'.heap[w.heap.size]? =some (.deferred<|some [])) (act ⟨n,[],[],some<|w.heap.size+1⟩ I) ao) ?_
     · unfold dO at h1
       have aq:({tmps:=(ps.zip<|J x).foldl (fun tmps (p:Tmp×Value)=>tmps.setIfInBounds p.1 p.2) (act ⟨n,[],U,none⟩ σ).tmps,defers:= []} :Act)=act ⟨n,[],[],some<|w.heap.size+1⟩ ((ps.toList.zip (J x).toList).foldl (fun s p=>dy s p.1 p.2) σ):=by rw [aL]; rfl
       rw [aq]
       refine wpIn_mono h1 ?_
       intro e a w' E
       cases e with
       | normal=>obtain ⟨I,rfl,G⟩:=E; exact G
       | panic c=>obtain ⟨I,rfl,G⟩:=E; exact G I fun _ _=>rfl
       | outgrown=>exact E.elim
       | _=>obtain ⟨I,rfl,G⟩:=E; exact G
     refine ⟨_,run_beginRound M (by rw [O]),?_⟩
     have aI:(W.putObj (w.heap.size+1)<|.loop {rc .ready none with state:= .busy}).heap[w.heap.size+1]? =some (.loop {rc .ready none with state:= .busy}):=zz aJ
     have aG:(W.putObj (w.heap.size+1)<|.loop {rc .ready none with state:= .busy}).heap[w.heap.size]? =some (.deferred<|some []):=(om ab).trans hk
     have h2:=az (w.heap.size+1) pre x rest _ aM<|ah _ _ _ (.loop {rc .ready none with state:= .busy}) hi M fun _ _ _ h=>by cases h
     unfold dO at h2
     refine wpIn_mono h2 ?_
     intro e a aP E
     cases e with
     | normal=>
       obtain ⟨I,rfl,ak,aE⟩:=E
       have ag:=ak _ _ aI fun _ _ _ h=>by cases h
       have aH:=ak _ _ aG fun _ _ _ h=>by cases h
       have al:=run_endRound (P:=P) none ag
       rw [O] at al ag ⊢
       exact ⟨_,_,al,aa,ah _ _ _ _ aE ag (fun _ _ _ h=>by cases h),zz (cU.1 ag).1,(om ab).trans aH⟩
     | panic c=>obtain ⟨I,rfl,G⟩:=E; exact (G I fun _ _=>rfl).elim
     | outgrown=>exact E.elim
     | _=>obtain ⟨I,rfl,G⟩:=E; exact G.elim
   · rintro e aO ⟨⟨v,rfl⟩,hi,M,hk⟩
     have am:=run_endLoop (P:=P) M<|by rw [O]; simp
     rw [O] at am
     refine ⟨none,_,am,?_⟩
     rw [O] at M
     exact hd w.heap.size _ (cA _) (ah _ _ _ _ hi M fun _ _ _ h=>by cases h)<|(om ab).trans hk
section
variable {P:Program} {N:Fm} {ops:Array Oper} {Q:Exit→(Nat→Value)→World→Prop} {rest:List Oper} {σ:Nat→Value} {w:World} {d':Option Nat} {d:Nat} {op:Op} {ty:TypeId} {pos :String} {af:Array Edge} {v:Value}
def oS (P:Program) (N:Fm) (ops:Array Oper) (Q:Exit→(Nat→Value)→World→Prop) (l:List Oper) (σ:Nat→Value) (w:World):Prop :=wpListIn (fe N.r) 0 P ops (lift N Q) l (act N σ) w
theorem Xg {id:Nat} {l:List Oper} (h:oS P N l.toArray Q l σ w):dO P N (.region id l.toArray false) Q σ w:=by
 unfold dO; exact wpIn_region_lit h
theorem V1 (h:Q .normal σ w):oS P N ops Q [] σ w:=⟨σ,rfl,h⟩
def CI (o:Op):Bool:=match o with | .defer _=>false | _=>true
theorem V7 {o:Op} (h:CI o=true):∀ c,o≠.defer c:=fun c e=>by subst e; cases h
theorem ey (hn:CI op=true) (h:dP P N ⟨d',op,ty,pos,af,none⟩ σ w (fun σ w=>oS P N ops Q rest σ w)):oS P N ops Q (⟨d',op,ty,pos,af,none⟩::rest) σ w:=by
 unfold oS wpListIn
 rw [if_pos (jO _ rfl _)]
 refine ⟨fun f _=>xQ _ f,?_⟩
 rw [Bs,MS _ _ _ (V7 hn)]
 unfold dP jZ at h
 generalize (execOp (act N σ).eval ⟨d',op,ty,pos,af,none⟩).run P w=x at h ⊢
 cases x with
 | ok n w'=>
   cases n <;> simp only [k3,qX] at h ⊢ <;>
    first
     | (obtain ⟨q,i,hk⟩:=h; rw [i]; exact hk)
     | (refine ⟨fun a=>(by rw [uL] at a; cases a),D4 (Hu h) fun e w'' he=> ?_⟩
        cases e with
        | returned v=>obtain ⟨q,i,hk⟩:=he; simp only; rw [i]; exact hk
        | panicked c=>exact he.elim
        | outgrown=>obtain ⟨_,_,A⟩:=he; exact A.elim)
     | (refine ⟨fun a=>(by rw [uL] at a; cases a),Ej (Bt h) fun v w'' he=> ?_⟩
        obtain ⟨q,i,hk⟩:=he; rw [i]; exact hk)
 | halt x w'=>cases x <;> simp only [k3] at h
theorem py (hn:CI op=true) (h:(execOp (ev N σ) ⟨some d,op,ty,pos,af,none⟩).run P w= .ok (.value v) w) (k:oS P N ops Q rest (dy σ d v) w):oS P N ops Q (⟨some d,op,ty,pos,af,none⟩::rest) σ w:=
 ey hn (oc h k)
theorem Zt {l:Nat} {fo:Operand} {args:Array Operand} {i:Array TypeId} {L:List Value} {R:World→Prop} (G:ev N σ fo= .func (.yield l) #[] #[]) (C:args.toList.map (ev N σ)=L)
 (J:YieldAt jd 0 P l L.toArray w fun e W'=>e= .returned (.bool true)∧R W') (k:∀ W',R W'→oS P N ops Q rest (dy σ d<|.bool true) W'):
 oS P N ops Q (⟨some d,.call ⟨.value fo,args,i⟩,ty,pos,af,none⟩::rest) σ w:=by
 obtain ⟨fn,tmps,a,b,E,A⟩:=J
 unfold oS wpListIn
 rw [if_pos (jO _ rfl _)]
 refine ⟨fun f _=>xQ _ f,?_⟩
 rw [Bs,MS _ _ _ (fun c e=>by cases e),ib]
 have hm:args.map (ev N σ)=L.toArray:=by rw [← C,← nu]
 have I:(execOp (ev N σ) ⟨some d,.call ⟨.value fo,args,i⟩,ty,pos,af,none⟩).run P w= .ok (.round l fn tmps a b) w:=by
  simp [execOp,resolve,G,qV,invoke,hm,E]
 rw [I]
 simp only [qX]
 refine ⟨fun q=>(by rw [uL] at q; cases q),?_⟩
 have h1:RoundIn (fe N.r) (0 - 1) P l fn tmps a b w fun e W'=>e= .returned (.bool true)∧R W':=by
  cases hr:N.r with
  | none=>exact A
  | some k=>exact A
 refine Eh h1 ?_
 rintro e W' ⟨rfl,hw⟩
 simp only
 rw [jG]
 exact k W' hw
end
end Go.Hb
end
section
namespace Go.Hb
def fD (P:Program) (f:FuncId) (args:Array Value) (w:World) (R:Value→World→Prop) (Pn:List PanicEntry→World→Prop):Prop :=
 Calls P f args w fun e w'=>(∃ v,e= .returned v∧R v w')∨∃ c,e= .panicked c∧Pn c w'
def Hx (P:Program) (fn:Func) (N:Fm) (R:Value→World→Prop) (Pn:List PanicEntry→World→Prop):Exit→(Nat→Value)→World→Prop
 | .normal,σ,w=> ∃ v,(results fn (act N σ).tmps).run P w= .ok v w∧R v w
 | .ret,σ,w=> ∃ v,(results fn (act N σ).tmps).run P w= .ok v w∧R v w
 | .panic c,_,w=>Pn c w
 | _,_,_=>False
theorem jL {P:Program} {fn:Func} {N:Fm} {R:Value→World→Prop} {Pn:List PanicEntry→World→Prop} {e:Exit} {σ:Nat→Value} {w:World} (h:fin P fn N R e σ w):Hx P fn N R Pn e σ w:=by
 cases e <;> first | exact h | exact h.elim
theorem kf {P:Program} {f:FuncId} {N:Nat} {fn:Func} {c:Code} {args:List Value} {w:World} {R:Value→World→Prop} {Pn:List PanicEntry→World→Prop} (I:P.funcs[f]? =some fn) (G:fn.body=some c)
 (E:fn.ntmps=N) (hn:o5 args.length N=true) (h:dO P ⟨N,[],[],none⟩ c (Hx P fn ⟨N,[],[],none⟩ R Pn) (mL args) w):fD P f args.toArray w R Pn:=by
 subst E
 refine calls_of_wp I G ?_
 rw [yP fn args [] hn]
 unfold dO at h
 refine MB ?_<|wpIn_wide.1 h
 intro e a w i
 cases e with
 | normal=>obtain ⟨σ,rfl,v,C,A⟩:=i; exact ⟨rfl,v,C,.inl ⟨v,rfl,A⟩⟩
 | ret=>obtain ⟨σ,rfl,v,C,A⟩:=i; exact ⟨rfl,v,C,.inl ⟨v,rfl,A⟩⟩
 | exit id=>obtain ⟨σ,rfl,q⟩:=i; exact q.elim
 | goto l=>obtain ⟨σ,rfl,q⟩:=i; exact q.elim
 | panic c=>obtain ⟨σ,rfl,q⟩:=i; exact ⟨rfl,.inr ⟨c,rfl,q σ fun _ _=>rfl⟩⟩
 | outgrown=>exact i.elim
section
variable {P:Program} {N:Fm} {Q:Exit→(Nat→Value)→World→Prop} {σ:Nat→Value} {w:World} {ops:Array Oper} {rest:List Oper} {dst:Option Nat} {ty:TypeId} {pos :String} {af:Array Edge} {g:Option (Nat×Bool)} {x:Operand}
def oU (P:Program) (N:Fm) (o:Oper) (σ:Nat→Value) (w:World) (K:(Nat→Value)→World→Prop) (Pn:List PanicEntry→World→Prop):Prop :=
 jZ P o (act N σ) w (fun a w=> ∃ σ,a=act N σ∧K σ w) (fun e a w=>match e with | .panic c=>a=act N σ∧Pn c w | _=>False)
theorem zg {o:Oper} {K:(Nat→Value)→World→Prop} {Pn:List PanicEntry→World→Prop} {q:Act→World→Prop} (h:oU P N o σ w K Pn) (hk:∀ σ w,K σ w→q (act N σ) w) (hp:∀ c w',Pn c w'→∀ E,(∀ i∈N.F,E i=σ i)→Q (.panic c) E w'):o.wp P (act N σ) w q (lift N Q):=by
 unfold oU at h
 unfold jZ at*
 generalize (execOp (act N σ).eval o).run P w=r at h ⊢
 have A:∀ a w,(∃ σ,a=act N σ∧K σ w)→q a w:=by rintro a w ⟨σ,rfl,h⟩; exact hk _ _ h
 have C:∀ c (a:Act) w',(a=act N σ∧Pn c w')→lift N Q (.panic c) a w':=by rintro c a w' ⟨rfl,h⟩; exact ⟨σ,rfl,hp c w' h⟩
 cases r with
 | ok n w'=>
   cases n <;> simp only [k3] at h ⊢ <;>
    first
     | exact A _ _ h
     | exact lF h (fun e w'' he=>by
      cases e with
      | returned v=>exact A _ _ he
      | panicked c=>exact C _ _ _ ⟨rfl,he.2⟩
      | outgrown=>obtain ⟨_,_,G⟩:=he; exact G.elim)
     | exact Ei h fun _ _ he=>A _ _ he
 | halt x w'=>cases x <;> simp only [k3] at h ⊢ <;> exact C _ _ _ ⟨rfl,h.2⟩
theorem dQ {f:FuncId} {args:Array Operand} {a:Array TypeId} {L:List Value} {R:Value→World→Prop} {Pn:List PanicEntry→World→Prop} {K:(Nat→Value)→World→Prop} (C:bl P f) (E:fD P f L.toArray w R Pn) (i:args.toList.map (ev N σ)=L)
 (k:∀ v w',R v w'→K (iL σ dst v) w'):oU P N ⟨dst,.call ⟨.value (.func f),args,a⟩,ty,pos,af,g⟩ σ w K Pn:=by
 unfold oU jZ
 have hm:args.map (ev N σ)=L.toArray:=by rw [← i,← nu]
 have G:(execOp (ev N σ) ⟨dst,.call ⟨.value (.func f),args,a⟩,ty,pos,af,g⟩).run P w= .ok (.enter f L.toArray) w:=by
  have h2:=C L.toArray w
  simp [execOp,resolve,ev,qV,invoke,hm,h2]
 rw [ib,G]
 simp only [k3]
 refine lF E ?_
 rintro e w' (⟨v,rfl,A⟩ | ⟨c,rfl,q⟩)
 · exact ⟨_,jG ..,k v w' A⟩
 · exact ⟨trivial,q⟩
theorem L9 {f:FuncId} {fo:Operand} {first cap:Array Value} {args:Array Operand} {a:Array TypeId} {L:List Value} {R:Value→World→Prop} {Pn:List PanicEntry→World→Prop} {K:(Nat→Value)→World→Prop} (C:bl P f) (G:ev N σ fo= .func (.func f) first cap) (E:fD P f L.toArray w R Pn) (i:first.toList++args.toList.map (ev N σ)++cap.toList=L)
 (k:∀ v w',R v w'→K (iL σ dst v) w'):oU P N ⟨dst,.call ⟨.value fo,args,a⟩,ty,pos,af,g⟩ σ w K Pn:=by
 unfold oU jZ
 have hm:first++args.map (ev N σ)++cap=L.toArray:=by rw [← i]; simp
 have I:(execOp (ev N σ) ⟨dst,.call ⟨.value fo,args,a⟩,ty,pos,af,g⟩).run P w= .ok (.enter f L.toArray) w:=by
  have h2:=C L.toArray w
  simp only [execOp,resolve,G,qV,invoke]
  simp [hm,h2]
 rw [ib,I]
 simp only [k3]
 refine lF E ?_
 rintro e w' (⟨v,rfl,A⟩ | ⟨c,rfl,q⟩)
 · exact ⟨_,jG ..,k v w' A⟩
 · exact ⟨trivial,q⟩
theorem eP {o:Oper} {Pn:List PanicEntry→World→Prop} (q:o.guard=none) (h:oU P N o σ w (fun σ w=>eL P N ops Q rest σ w) Pn) (hp:∀ c w',Pn c w'→∀ a,(∀ i∈N.F,a i=σ i)→Q (.panic c) a w'):eL P N ops Q (o::rest) σ w:=by
 unfold eL wpList
 rw [if_pos (jO o q _)]
 refine .inl<|zg h (fun σ w hk=> ?_) hp
 unfold eL at hk; exact hk
theorem WL {t:TypeId} {v:Value} (A:ev N σ x= .iface t v) (hp:∀ a,(∀ i∈N.F,a i=σ i)→Q (.panic [{v:= .iface t v,recovered:=false}]) a w):eL P N ops Q (⟨dst,.panic x,ty,pos,af,none⟩::rest) σ w:=by
 unfold eL wpList
 rw [if_pos (jO _ rfl _)]
 refine .inl ?_
 unfold jZ
 have q:(execOp (ev N σ) ⟨dst,.panic x,ty,pos,af,none⟩).run P w= .halt (.panic<|.iface t v) w:=by
  simp [execOp,A,Instr.panic]
 rw [ib,q]
 exact ⟨σ,aa,hp⟩
theorem VP {t:TypeId} {d:TypeDesc} {v:Value} (hu:P.underlying t=some d) (hd:(match d with | .interface _=>false | _=>true)=true) (a:ev N σ x=v):(execOp (ev N σ) ⟨dst,.makeInterface t x,ty,pos,af,g⟩).run P w= .ok (.value<|.iface t v) w:=by
 cases d <;> first | (cases hd; done) | simp [execOp,Instr.makeInterface,a,eB hu]
def rN (P:Program) (t:TypeId):Bool:=match P.underlying t with | some (.interface _)=>false | some _=>true | none=>false
theorem VQ {t:TypeId} {v:Value} (h:rN P t=true) (a:ev N σ x=v):(execOp (ev N σ) ⟨dst,.makeInterface t x,ty,pos,af,g⟩).run P w= .ok (.value<|.iface t v) w:=by
 unfold rN at h
 cases hd:P.underlying t with
 | none=>rw [hd] at h; cases h
 | some d=>rw [hd] at h; exact VP hd (by cases d <;> first | rfl | cases h) a
theorem Yw {xt a:TypeId} {zv:Value} (hu:rN P a=true) (q:zeroV P a=some zv) (i:ev N σ x= .nilIface):(execOp (ev N σ) ⟨dst,.typeAssert x xt a true,ty,pos,af,g⟩).run P w= .ok (.value<|.tuple #[zv,.bool false]) w:=by
 unfold rN at hu
 cases hd:P.underlying a with
 | none=>rw [hd] at hu; cases hu
 | some d=>rw [hd] at hu; cases d <;> first | (cases hu; done) | simp [execOp,MP,i,eB hd,zi q]
theorem Yv {xt a:TypeId} {v:Value} (hu:rN P a=true) (i:ev N σ x= .iface a v):(execOp (ev N σ) ⟨dst,.typeAssert x xt a true,ty,pos,af,g⟩).run P w= .ok (.value<|.tuple #[v,.bool true]) w:=by
 unfold rN at hu
 cases hd:P.underlying a with
 | none=>rw [hd] at hu; cases hu
 | some d=>rw [hd] at hu; cases d <;> first | (cases hu; done) | simp [execOp,MP,i,eB hd]
variable {S:World→Prop} {fuel:Nat} {bc:Array Bool}
theorem tj {o:Oper} {Pn:List PanicEntry→World→Prop} (i:Nat) (hi:ops[i]? =some o) (A:lA ops bc i=true) (q:o.guard=none)
 (h:oU P N o σ w (fun σ w=>S w∧fL P N ops Q S fuel (bc.setIfInBounds i true) σ w) Pn) (hp:∀ c w',Pn c w'→∀ a,(∀ i∈N.F,a i=σ i)→Q (.panic c) a w'):fL P N ops Q S (fuel+1) bc σ w:=by
 unfold fL at*
 refine wpAnyH_all (rs:= [i]) (by simpa [lA] using A) (by simp) ?_
 intro k hk
 obtain rfl :k=i:=by simpa using hk
 unfold wpOp
 simp only [hi]
 rw [if_pos (jO _ q _)]
 exact .inl<|zg h (fun σ w hk=>hk) hp
end
section
variable {P:Program} {N:Fm} {Q:Exit→(Nat→Value)→World→Prop} {σ:Nat→Value} {w:World} {ops:Array Oper} {S:World→Prop} {fuel:Nat} {bc:Array Bool}
theorem Uq {o a:Oper} {Pn:List PanicEntry→World→Prop} (i j:Nat) (hi:ops[i]? =some o) (E:ops[j]? =some a) (G:((jl .any ops bc)== [i,j])=true) (A:o.guard=none) (C:a.guard=none)
 (h:oU P N o σ w (fun σ w=>S w∧fL P N ops Q S fuel (bc.setIfInBounds i true) σ w) Pn) (hp:∀ c w',Pn c w'→∀ q,(∀ i∈N.F,q i=σ i)→Q (.panic c) q w')
 (h1:dP P N a σ w (fun σ w=>S w∧fL P N ops Q S fuel (bc.setIfInBounds j true) σ w)):fL P N ops Q S (fuel+1) bc σ w:=by
 unfold fL at*
 refine wpAnyH_all (rs:= [i,j]) (by simpa using G) (by simp) ?_
 intro k hk
 simp only [gu,uh,or_false] at hk
 rcases hk with rfl | rfl
 · unfold wpOp
   simp only [hi]
   rw [if_pos (jO _ A _)]
   exact .inl<|zg h (fun _ _ hk=>hk) hp
 · unfold wpOp
   simp only [E]
   rw [if_pos (jO _ C _)]
   exact .inl<|tM h1 fun _ _ hk=>hk
end
section
variable {P:Program} {N:Fm} {Q:Exit→(Nat→Value)→World→Prop} {σ:Nat→Value} {w:World} {ops:Array Oper} {S:World→Prop} {fuel r:Nat} {bc:Array Bool}
theorem Jh {o:Oper} {Pn:List PanicEntry→World→Prop} (i:Nat) (hi:ops[i]? =some o) (E:lA ops bc i=true) (C:o.guard=none)
 (h:oU P N o σ w (fun σ w=>S w∧iM P N ops Q S r fuel (bc.setIfInBounds i true) σ w) Pn) (hp:∀ c w',Pn c w'→∀ q,(∀ i∈N.F,q i=σ i)→Q (.panic c) q w'):iM P N ops Q S r (fuel+1) bc σ w:=by
 unfold iM at*
 have a:jl .any ops bc= [i]:=by simpa [lA] using E
 refine ⟨fun A=>absurd (a ▸ A) (by simp),fun k hk=> ?_⟩
 rw [a] at hk
 obtain rfl :k=i:=by simpa using hk
 unfold wpOp
 simp only [hi]
 rw [if_pos (jO _ C _)]
 exact .inl<|zg h (fun σ w hk=>⟨fun _=>hk.1,hk.2⟩) hp
end
abbrev qa (P:Program) (fn:Func) (R:Value→World→Prop):Exit→Act→World→Prop :=bodyPostD P fn (fun e w'=> ∃ v,e= .returned v∧R v w')
theorem Sz {P:Program} {f:FuncId} {N:Nat} {fn:Func} {c:Code} {args:List Value} {w:World} {R:Value→World→Prop} (F:List Nat) (q:P.funcs[f]? =some fn) (i:fn.body=some c)
 (a:fn.ntmps=N) (hn:o5 args.length N=true) (h:oa P ⟨N,[],F,none⟩ c (qa P fn R) (mL args) w):bm P f args.toArray w R:=by
 subst a
 refine calls_of_wp_defers q i ?_
 rw [yP fn args F hn]
 exact wpIn_wide.1 h
section
variable {P:Program} {n:Nat} {D:List Deferred} {F:List Nat} {σ:Nat→Value} {w:World} {fn:Func} {R:Value→World→Prop} {B:Exit→Act→World→Prop}
theorem SS {v:Value} (i:(results fn (act ⟨n,[],F,none⟩ σ).tmps).run P w= .ok v w) (a:R v w):qb ⟨n,[],F,none⟩ (qa P fn R) .ret σ w:=⟨v,i,v,rfl,a⟩
theorem Vl:¬LetsOut (qa P fn R):=fun ⟨_,_,h⟩=>by obtain ⟨v,h,_⟩:=h; cases h
theorem Se {id d:Nat} {f:FuncId} (J:¬LetsOut B) {cs:Array Operand} {G I:TypeId} {C E:String} {q A:Array Edge} {y:Code} (i:Array Value) (O:cs.toList.map (ev ⟨n,[],F,none⟩ σ)=i.toList) (hd:d < n)
 (h:oa P ⟨n,[{target:= .fn (.func f) i,args:= #[]}],F,none⟩ y B (dy σ d<|.func (.func f) #[] i) w):
 oa P ⟨n,[],F,none⟩ (.region id #[⟨some d,.makeFunc (.func f) #[] cs,G,C,q,none⟩,⟨none,.defer ⟨.value (.tmp d),#[],#[]⟩,I,E,A,none⟩] false) (Exit.then (y.wpIn (fe none) 0 P B) B) σ w:=by
 have U:cs.map (ev ⟨n,[],F,none⟩ σ)=i:=zm.1<|by rw [nu]; exact O
 refine wpIn_region ?_
 have M:¬LetsOut (Exit.then (y.wpIn (fe none) 0 P B) B):=fun ⟨a,w,h⟩=>J ⟨a,w,h⟩
 refine Cn (r:=none) M aa _ _ _ ?_
 show wpOps P _ _ [0,1] _ _
 simp only [wpOps,Ng,ud,List.getElem?_cons_succ]
 rw [if_pos (jO _ rfl _)]
 refine .inl ?_
 unfold jZ
 have h1:(execOp (act ⟨n,[],F,none⟩ σ).eval ⟨some d,.makeFunc (.func f) #[] cs,G,C,q,none⟩).run P w= .ok (.value<|.func (.func f) #[] i) w:=by
  rw [ib,mf,U]; simp
 rw [h1]
 simp only [k3]
 rw [if_pos (jO _ rfl _),jG]
 refine .inl ?_
 have h2:(execOp (act ⟨n,[],F,none⟩<|iL σ (some d)<|.func (.func f) #[] i).eval ⟨none,.defer ⟨.value (.tmp d),#[],#[]⟩,I,E,A,none⟩).run P w= .ok (.defer {target:= .fn (.func f) i,args:= #[]}) w:=by
  have V:ev ⟨n,[],F,none⟩ (dy σ d<|.func (.func f) #[] i) (.tmp d)= .func (.func f) #[] i:=by
   show cond (gD d n) (dy σ d _ d) undef=_
   rw [show gD d n=true from by simpa using hd]
   show dy σ d _ d=_
   unfold dy; simp
  rw [ib]
  show (execOp (ev ⟨n,[],F,none⟩<|dy σ d<|.func (.func f) #[] i) _).run P w=_
  simp [execOp,resolve,V,qV]
 rw [h2]
 exact h
end
theorem Wm {P:Program} {ops:Array Oper} {Q:Exit→Act→List Frame→World→Prop} {cs:List Frame} (A:¬LetsOut fun e a w=>Q e a cs w):∀ (l:List Nat) (a:Act) (w:World),wpOps P ops (fun e a w=>Q e a cs w) l a w→wpOpsS P ops Q l a cs w:=by
 intro l
 induction l with
 | nil=>exact fun _ _ h=>h
 | cons i l q=>
   intro a w h
   simp only [wpOps] at h
   simp only [wpOpsS]
   cases ho:ops[i]? with
   | none=>simp only [ho] at h ⊢; exact q a w h
   | some o=>
     simp only [ho] at h ⊢
     by_cases hw:Region.wanted o (yielded ops a.tmps)=true
     · rw [if_pos hw] at h ⊢
       rcases h with h | h
       · unfold jZ at h
         generalize (execOp a.eval o).run P w=x at h
         cases x with
         | ok n w'=>
           cases n <;> simp only [k3] at h ⊢ <;>
            first
             | exact q _ _ h
             | exact lF h fun e w'' he=>by cases e <;> first | exact q _ _ he | exact he
             | exact Ei h fun v w'' he=>q _ _ he
         | halt x w'=>cases x <;> simp only [k3] at h ⊢ <;> exact h
       · exact absurd h.2 A
     · rw [if_neg hw] at h ⊢
       exact q _ _ h
theorem Vo {P:Program} {ops:Array Oper} {Q A:Exit→Act→World→Prop} (q:∀ e a w,Q e a w→A e a w) (C:¬LetsOut Q):∀ (l:List Oper) (a:Act) (w:World),wpList P ops Q l a w→wpList P ops A l a w:=by
 intro l
 induction l with
 | nil=>exact fun _ _ h=>q _ _ _ h
 | cons o l i=>
   intro a w h
   unfold wpList at h ⊢
   split at h
   · rename_i hw
     rw [if_pos hw]
     rcases h with h | h
     · left
       unfold jZ at h ⊢
       generalize (execOp a.eval o).run P w=x at h
       cases x with
       | ok n w'=>
         cases n <;> simp only [k3] at h ⊢ <;>
          first
           | exact i _ _ h
           | exact lF h (fun e w'' he=>by
            cases e with
            | returned v=>exact i _ _ he
            | panicked c=>exact q _ _ _ he
            | outgrown=>exact absurd he C)
           | exact Ei h fun v w'' he=>i _ _ he
       | halt x w'=>cases x <;> simp only [k3] at h ⊢ <;> exact q _ _ _ h
     · exact absurd h.2 C
   · rename_i hw
     rw [if_neg hw]; exact i _ _ h
theorem Gn {P:Program} {f:FuncId} {fn:Func} {id N d:Nat} {ty:TypeId} {pos :String} {af:Array Edge} {rest:List Oper} {y:Code} {args:List Value} {w:World} {u E:FrameMode} {v:Value} {R:World→Prop}
 (ac:P.funcs[f]? =some fn) (aa:fn.body=some (.seq (.region id (⟨some d,.call ⟨.builtin .recover,#[],#[]⟩,ty,pos,af,none⟩::rest).toArray false) y)) (Z:fn.ntmps=N) (hn:o5 args.length N=true)
 (ae:∀ (A:Frame) (cs:List Frame),A.mode=u→(recoverD (A::cs)=some (v,{A with mode:=E} ::cs))∨(recoverD (A::cs)=none∧v= .nilIface∧E=u))
 (h:eL P ⟨N,[],[],none⟩ (⟨some d,.call ⟨.builtin .recover,#[],#[]⟩,ty,pos,af,none⟩::rest).toArray (lS (fun σ w=>dO P ⟨N,[],[],none⟩ y (fin P fn ⟨N,[],[],none⟩ fun _ w=>R w) σ w)<|fin P fn ⟨N,[],[],none⟩ fun _ w=>R w) rest (dy (mL args) d v) w):
 CallsD P f args.toArray u w fun e G w'=> ∃ v,e= .returned v∧G=E∧R w':=by
 subst Z
 refine callsD_of_wpS ac aa ?_
 intro A cs hu
 rw [yP fn args [] hn]
 refine wpS_seq<|wpS_region ?_
 have ag:j7 (⟨some d,.call ⟨.builtin .recover,#[],#[]⟩,ty,pos,af,none⟩::rest).toArray.size=0::(List.range' 1 rest.length):=by
  rw [ot,cO,List.range_eq_range',List.range'_succ]
 rw [ag]
 simp only [wpOpsS,Ng,ud]
 rw [if_pos (jO _ rfl _)]
 have ah:(execOp (act ⟨fn.ntmps,[],[],none⟩<|mL args).eval ⟨some d,.call ⟨.builtin .recover,#[],#[]⟩,ty,pos,af,none⟩).run P w= .ok .recover w:=by
  rw [ib]
  simp [execOp,resolve,invoke,builtin]
 rw [ah]
 simp only
 obtain ⟨I,J⟩:∃ I,I=({A with mode:=E} ::cs:List Frame):=⟨_,rfl⟩
 have ab:∀ X:Act→List Frame→Prop,X ((act ⟨fn.ntmps,[],[],none⟩<|mL args).put (some d) v) I→
  (match recoverD (A::cs) with
   | some (v,M)=>X ((act ⟨fn.ntmps,[],[],none⟩<|mL args).put (some d) v) M
   | none=>X ((act ⟨fn.ntmps,[],[],none⟩<|mL args).put (some d) .nilIface) (A::cs)):=by
  intro X V
  rcases ae A cs hu with h1 | ⟨h1,h2,h3⟩
  rw [h1]; subst J; exact V
  rw [h1]; subst h2 h3
  have :({A with mode:=E} :Frame)=A:=by subst hu; rfl
  rw [this] at J; subst J; exact V
 refine ab (fun a M=>wpOpsS P _ _ _ a M w) ?_
 rw [jG]
 refine Wm ?_ _ _ _ ?_
 rintro ⟨a,w,h⟩
 simp only [Exit.thenS,bodyPostS] at h
 obtain ⟨_,_,h,_⟩:=h; cases h
 have h1:=wpOps_eq_wpList (P:=P) (ops:=(⟨some d,.call ⟨.builtin .recover,#[],#[]⟩,ty,pos,af,none⟩::rest).toArray) (Q:=fun e a w'=>Exit.thenS (Code.wpS P y (bodyPostS P fn A cs fun e G w'=> ∃ v,e= .returned v∧G=E∧R w')) (bodyPostS P fn A cs fun e G w'=> ∃ v,e= .returned v∧G=E∧R w') e a I w') rest 1 fun j=>by simp [Nat.add_comm]
 rw [h1]
 unfold eL at h
 refine Vo ?_ Cy _ _ _ h
 intro e a w' C
 have Y:∀ (e:Exit) (σ:Nat→Value) (w':World),fin P fn ⟨fn.ntmps,[],[],none⟩ (fun _ w=>R w) e σ w'→bodyPostS P fn A cs (fun e G w'=> ∃ v,e= .returned v∧G=E∧R w') e (act ⟨fn.ntmps,[],[],none⟩ σ) I w':=by
  intro e σ w' q
  cases e with
  | normal=>obtain ⟨v,U,O⟩:=q; exact ⟨rfl,E,J,v,U,v,rfl,rfl,O⟩
  | ret=>obtain ⟨v,U,O⟩:=q; exact ⟨rfl,E,J,v,U,v,rfl,rfl,O⟩
  | _=>exact q.elim
 cases e with
 | normal=>
   obtain ⟨σ,rfl,q⟩:=C
   refine wpS_of_wp ?_
   simp only [lS] at q
   unfold dO at q
   refine MB ?_<|wpIn_wide.1 q
   intro e a w' C
   cases e with
   | panic c=>obtain ⟨σ,rfl,q⟩:=C; exact (q σ fun _ _=>rfl).elim
   | outgrown=>exact C.elim
   | _=>obtain ⟨σ,rfl,q⟩:=C; exact Y _ σ w' q
 | panic c=>obtain ⟨σ,rfl,q⟩:=C; exact (q σ fun _ _=>rfl).elim
 | outgrown=>exact C.elim
 | ret=>obtain ⟨σ,rfl,q⟩:=C; exact Y .ret σ w' q
 | exit i=>obtain ⟨σ,rfl,q⟩:=C; exact q.elim
 | goto i=>obtain ⟨σ,rfl,q⟩:=C; exact q.elim
section
variable {P:Program} {n:Nat} {F:List Nat} {σ:Nat→Value} {w:World} {fn:Func} {R:Value→World→Prop}
theorem SW {g:FuncId} {a:Array Value} {M:World→Prop} (hu:(invoke (.fn (.func g) a) #[]).run P w= .ok (.enter g a) w)
 (q:CallsD P g a .returning w fun e A w'=> ∃ v,e= .returned v∧A= .returning∧M w') (i:∀ w',M w'→∃ v,(results fn (act ⟨n,[{target:= .fn (.func g) a,args:= #[]}],F,none⟩ σ).tmps).run P w'= .ok v w'∧R v w'):
 qb ⟨n,[{target:= .fn (.func g) a,args:= #[]}],F,none⟩ (qa P fn R) .ret σ w:=by
 refine leaves_cons (by simp) hu ?_
 refine MA q ?_
 rintro e C w' ⟨v,rfl,rfl,hm⟩
 obtain ⟨v2,h1,h2⟩:=i w' hm
 exact ⟨v2,h1,v2,aa,h2⟩
theorem SX {g:FuncId} {a:Array Value} {M:World→Prop} {v:Value} (hu:(invoke (.fn (.func g) a) #[]).run P w= .ok (.enter g a) w)
 (q:CallsD P g a (.panicking [{v:=v,recovered:=false}]) w fun e A w'=> ∃ x,e= .returned x∧A= .panicking [{v:=v,recovered:=true}]∧M w') (i:∀ w',M w'→∃ v,(results fn (act ⟨n,[{target:= .fn (.func g) a,args:= #[]}],F,none⟩ σ).tmps).run P w'= .ok v w'∧R v w'):
 qb ⟨n,[{target:= .fn (.func g) a,args:= #[]}],F,none⟩ (qa P fn R) (.panic [{v:=v,recovered:=false}]) σ w:=by
 refine leaves_cons (by simp) hu ?_
 refine MA q ?_
 rintro e C w' ⟨x,rfl,rfl,hm⟩
 obtain ⟨v2,h1,h2⟩:=i w' hm
 exact ⟨v2,h1,v2,aa,h2⟩
end
end Go.Hb
end
section
namespace Go.Hb
def mr (w:World) (B e n:Nat) (v:Value) (xs:List Value):Prop :=
 ∃ a cp,v= .slice a n cp∧n≤cp∧(xs= []∨∃ b o cur z,a=some ⟨b,o,none⟩∧B≤b∧w.heap[b]? =some (.cells cur e z)∧∀ (j:Nat) u,xs[j]? =some u→cur[o+j]? =some u)
theorem Tg.YH {w:World} {B e n:Nat} {v:Value} {xs:List Value} (h:Tg w B e n v xs):mr w B e n v xs:=by
 obtain ⟨a,cp,rfl,C,i⟩:=h
 refine ⟨a,cp,aa,C,i.imp id ?_⟩
 rintro ⟨b,cur,z,q,A,E,i⟩
 exact ⟨b,0,cur,z,q,A,E,fun j u hu=>by rw [Nat.zero_add]; exact i j u hu⟩
theorem mr.cells {w:World} {B e n cp:Nat} {a:Option Addr} {xs:List Value} (h:mr w B e n (.slice a n cp) xs):n≤cp∧aJ w.heap a xs:=by
 obtain ⟨E,G,C,q,i⟩:=h
 cases C
 rcases i with h | ⟨b,o,cur,z,rfl,_,A,i⟩
 · subst h; exact ⟨q,aJ.nil _ _⟩
 · refine ⟨q,fun _=>rfl,fun j u hu=> ?_⟩
   show Hb.aO w.heap b (o+j)=_
   rw [aX A]; exact i j u hu
theorem mr.slice {w:World} {B e n:Nat} {v:Value} {xs:List Value} (h:mr w B e n v xs):∃ a cp,v= .slice a n cp:=let ⟨a,cp,hv,_⟩:=h; ⟨a,cp,hv⟩
theorem mr.md {F:Nat→Prop} {w w':World} {B e n:Nat} {v:Value} {xs:List Value} (h:mr w B e n v xs) (hm:Md F w w') (A:∀ k,F k→∀ cur z,w.heap[k]?≠some (.cells cur e z)):mr w' B e n v xs:=by
 obtain ⟨a,cp,rfl,q,h | ⟨b,o,cur,z,rfl,C,i,E⟩⟩:=h
 · exact ⟨a,cp,aa,q,.inl h⟩
 · exact ⟨_,cp,aa,q,.inr ⟨b,o,cur,z,aa,C,by rw [hm.cx b (cU.1 i).1 (fun hk=>A b hk cur z i)]; exact i,E⟩⟩
theorem mr.pF {w:World} {B e n m cp:Nat} {a:Option Addr} {xs:List Value} (h:mr w B e (n+1) (.slice a (n+1) cp) xs) (E:xs.length=(n+1)*m):mr w B e n (.slice (gq a cp 1 m) n<|cp - 1) (xs.drop m):=by
 obtain ⟨I,J,C,M,A⟩:=h
 cases C
 refine ⟨_,_,aa,ab,?_⟩
 rcases A with rfl | ⟨b,o,cur,z,rfl,i,q,G⟩
 · exact .inl<|by simp
 · unfold gq
   by_cases h1:cp=1
   · refine .inl<|fW ?_
     obtain rfl :n=0:=ab
     rw [fT,E]; omega
   · rw [if_neg h1]
     refine .inr ⟨b,o+1 *m,cur,z,?_,i,q,fun j u hu=> ?_⟩
     · rw [mm,mu]
     · rw [List.getElem?_drop] at hu
       have :=G _ u hu
       rw [show o+1 *m+j=o+(m+j) from by omega]; exact this
def eu (w:World) (B e:Nat) (vs:List Value) (a:List (List Nat)):Prop :=vs.length=a.length∧∀ (i:Nat) v l,vs[i]? =some v→a[i]? =some l→Tg w B e l.length v (l.map bg)
theorem eu.nil (w:World) (B e:Nat):eu w B e [] []:=⟨rfl,fun i v l a=>by simp at a⟩
theorem eu.md {F:Nat→Prop} {w w':World} {B e:Nat} {vs:List Value} {a:List (List Nat)} (h:eu w B e vs a) (hm:Md F w w') (q:∀ k,F k→∀ cur z,w.heap[k]?≠some (.cells cur e z)):eu w' B e vs a:=⟨h.1,fun i v l h1 h2=>(h.2 i v l h1 h2).md hm q⟩
theorem eu.wk {w w':World} {B e:Nat} {vs:List Value} {a:List (List Nat)} (h:eu w B e vs a) (hm:Wk w w'):eu w' B e vs a:=h.md hm fun _ hk=>hk.elim
theorem eu.mono {w:World} {B B' e:Nat} {vs:List Value} {a:List (List Nat)} (h:eu w B e vs a) (q:B'≤B):eu w B' e vs a:=⟨h.1,fun i v l h1 h2=>(h.2 i v l h1 h2).mono q⟩
theorem eu.snoc {w:World} {B e:Nat} {vs:List Value} {q:List (List Nat)} {v:Value} {l:List Nat} (a:eu w B e vs q) (C:Tg w B e l.length v (l.map bg)):eu w B e (vs++ [v]) (q++ [l]):=by
 refine ⟨by rw [bL,bL,a.1]; rfl,fun i E G h1 h2=> ?_⟩
 have A:=a.1
 by_cases hi:i < vs.length
 · rw [ml hi] at h1
   rw [ml ab] at h2
   exact a.2 i E G h1 h2
 · rw [mS ab] at h1
   rw [mS ab,← A] at h2
   cases hj:i - vs.length with
   | zero=>rw [hj] at h1 h2; cases h1; cases h2; exact C
   | succ j=>rw [hj] at h1; simp at h1
def jh (t ln:Nat) (e:Int):List PanicEntry:= [{v:= .iface t (.agg [.int .i64 1,.int .i64 (ln:Nat),.int .i64 e].toArray),recovered:=false}]
theorem eD {h:World} {b:Nat} {isK:Value→Prop} {f:Value→Option Value} (hm:dp h.heap b isK f):tag h b=1:=let ⟨_,h1,_⟩:=hm; Yx h1
def Wr (L:List Nat) (ms mt mc B:Nat) (w:World) (k:Nat):Prop :=B≤k∧(k=ms∨k=mt∨k=mc∨L.contains (tag w k)=true)
abbrev Mw (L:List Nat) (ms mt mc B:Nat) (w w':World):Prop :=Md (Wr L ms mt mc B w) w w'
section
variable {L:List Nat} {ms mt mc B:Nat} {w w' w'':World}
theorem Mw.trans (h:Mw L ms mt mc B w w') (a:Mw L ms mt mc B w' w''):Mw L ms mt mc B w w'':=by
 refine Md.trans' h a fun k hk hw=> ?_
 refine Classical.byContradiction fun hn=> ?_
 have :=Md.tag h hk hn
 unfold Wr at hw
 rw [this] at hw
 exact hn hw
theorem Wk.mw (h:Wk w w'):Mw L ms mt mc B w w':=h.mono fun _ _ a=>a.elim
theorem Mw.of {F:Nat→Prop} (h:Md F w w') (q:TF w L F) (i:∀ k,F k→B≤k):Mw L ms mt mc B w w':=h.mono fun k _ a=>⟨i k a,.inr<|.inr<|.inr<|q k a⟩
theorem Mw.wk {a:World} (i:Wk a w) (h:Mw L ms mt mc B w w') (q:a.heap.size≤B):Wk a w':=Md.trans' i h fun k hk hw=>by have :=hw.1; omega
theorem Wr.ne (hs:tag w ms=1) (C:tag w mt=1) (A:tag w mc=1) {e:Nat} (q:L.contains (e+2)=false):∀ k,Wr L ms mt mc B w k→∀ cur z,w.heap[k]?≠some (.cells cur e z):=by
 rintro k ⟨_,rfl | rfl | rfl | h⟩ cur z i <;> have a:=dt i
 · omega
 · omega
 · omega
 · rw [a,q] at h; cases h
end
end Go.Hb
end
section
namespace Go.Hb
section
variable {P:Program} {N:Fm} {σ:Nat→Value} {w:World} {dst:Option Nat} {ty:TypeId} {pos :String} {af:Array Edge} {g:Option (Nat×Bool)} {x y:Operand}
theorem SK (d:Nat) {t e:TypeId} {a:Option Addr} {n c:Nat} (hu:P.underlying t=some (.slice e)):(Op.equalIn (d+1) t (.slice a n c)<|.slice none 0 0).run P w= .ok a.isNone w:=by
 cases a <;> simp [Op.equalIn,eB hu]
theorem SL {t e:TypeId} {a:Option Addr} {n c:Nat} (hu:P.underlying t=some (.slice e)):(Op.equal t (.slice a n c)<|.slice none 0 0).run P w= .ok a.isNone w:=SK 9999 hu
theorem sW {t A e:TypeId} {a:Option Addr} {n c:Nat} (hu:P.underlying t=some (.slice e)) (i:ev N σ x= .slice a n c) (q:ev N σ y= .slice none 0 0):
 (execOp (ev N σ) ⟨dst,.binOp .eql t x y A,ty,pos,af,g⟩).run P w= .ok (.value<|.bool a.isNone) w:=by
 have h:(binOp .eql t (.slice a n c)<|.slice none 0 0).run P w= .ok (.bool a.isNone) w:=by
  simp only [binOp]; simp [SL hu]
 simp [execOp,i,q,eqGuard,h]
end
def Rd (h:Array Obj) (v:Value) (n size:Nat) (xs:List Value):Prop := ∃ a c,v= .slice a n c∧aJ h a xs∧xs.length=n*size∧(a=none→n=0)
theorem Rd.jM {w:World} {B e size n:Nat} {v:Value} {xs:List Value} (h:w.ownsRow B e size v n xs):Rd w.heap v n size xs:=by
 obtain ⟨a,c,rfl,h1,_,_,h3⟩:=tv h
 refine ⟨a,c,aa,h1,h.1,fun i=> ?_⟩
 subst i
 rcases h.2 with ⟨h4,h5⟩ | ⟨g,cap,cur,h4,_⟩
 · exact h5
 · simp at h4
theorem Ka {w:World} {B e size n k cp:Nat} {a:Option Addr} {xs:List Value} (h:w.ownsRow B e size (.slice a n cp) n xs) (hk:k≤n) (C:a≠none):w.ownsRow B e size (.slice a k cp) k (xs.take<|k*size):=by
 obtain ⟨i,h⟩:=h
 refine ⟨by rw [dR,i]; exact o6 (um _ hk),?_⟩
 rcases h with ⟨h1,_⟩ | ⟨g,cap,cur,h1,h2,h3,h4,h5,q,A⟩
 · simp only [mQ] at h1; exact absurd h1.1 C
 · simp only [mQ,true_and] at h1
   obtain ⟨rfl,rfl⟩:=h1
   refine .inr ⟨g,_,cur,aa,h2,h3,ab,h5,q,?_⟩
   rw [← A,Nv,o6 (um _ hk)]
section
variable {P:Program} {N:Fm} {σ:Nat→Value} {w:World} {dst:Option Nat} {ty:TypeId} {pos :String} {af:Array Edge} {g:Option (Nat×Bool)} {x y z u:Operand} {K:(Nat→Value)→World→Prop}
theorem XX {t n len cap:Nat} {a:Option Addr} {k k' G:IntKind} {i j m:Nat} (he:gA P t=some n) (A:ev N σ x= .slice a len cap) (C:ev N σ y= .int k (i:Nat)) (E:ev N σ z= .int k' (j:Nat)) (hu:ev N σ u= .int G (m:Nat)) (h:i≤j∧j≤m∧m≤cap):
 (execOp (ev N σ) ⟨dst,.slice t x (some y) (some z) (some u),ty,pos,af,g⟩).run P w= .ok (.value<|.slice (gq a m i n) (j - i)<|m - i) w:=by
 have h1:(0:Int)≤(i:Int):=ab
 have h2:(0:Int)≤(j:Int):=ab
 have h3:(0:Int)≤(m:Int):=ab
 unfold gA at he
 cases hd:P.underlying t with
 | none=>rw [hd] at he; cases he
 | some d=>
   rw [hd] at he
   cases d <;> first | (cases he; done) | skip
   rename_i e
   cases hi':P.info? e with
   | none=>simp [hi'] at he
   | some q=>
     simp only [hi',mm,fU] at he
     subst he
     simp only [execOp,sc,Instr.slice,A,C,E,hu,mm,oY,Instr.sliceBound,asIntOf]
     simp [eB hd,ja hi',sizeOf,h.1,h.2.1,h.2.2,gq]
theorem Oi {t e size bytes B n m cp c A:Nat} {xs news:List Value} {a:Option Addr} (Y:gi P t e size bytes=true) (M:w.ownsRow B e size (.slice (some ⟨A,0,none⟩) n cp) n xs) (Z:ev N σ x= .slice (some ⟨A,0,none⟩) n cp)
 (aa:ev N σ y= .slice a m c) (G:aJ w.heap a news) (I:a≠none) (J:news.length=m*size) (h1:news.all Value.oneCell'=true) (V:n+m≤cp)
 (k:∀ w',Md (fun q=>q=A) w w'→w'.ownsRow B e size (.slice (some ⟨A,0,none⟩) (n+m) cp) (n+m) (xs++news)→K (iL σ dst<|.slice (some ⟨A,0,none⟩) (n+m) cp) w'):
 dP P N ⟨dst,.call ⟨.builtin .append,#[x,y],#[t,t]⟩,ty,pos,af,g⟩ σ w K:=by
 obtain ⟨hu,i,zv,hi,ae,hs,ab,ag,ac⟩:=rV Y
 obtain ⟨ad,rfl⟩:∃ ad,a=some ad:=by cases a with | none=>exact absurd rfl I | some ad=>exact ⟨ad,rfl⟩
 have hn:∀ j v,news[j]? =some v→w.cell? (ad.add j)=some v:=fun j v C=>by
  have E:news≠[]:=fun e=>by rw [e] at C; simp at C
  have h2:=G.ok E
  simp only [fU] at h2
  rw [h2,mu,nG]; exact G.aO j v C
 obtain ⟨w',U,h2,h3⟩:=Go.run_append_fits (P:=P) (w:=w) B t ty e i size hu hi hs A n cp xs M ad m c news J hn (ux h1) V
 refine oc (w':=w') (v:= .slice (some ⟨A,0,none⟩) (n+m) cp) ?_<|k w' ⟨h3.os,h3.output,h3.size,fun q O E=>h3.block q O fun e=>E<|q9 e⟩ h2
 simp [execOp,resolve,invoke,builtin,Z,aa,U]
end
end Go.Hb
end
section
namespace Go.Hb
def qh (P:Program) (t:TypeId):Option (Nat×Nat):=
 match P.underlying t with
 | some (.array n e)=>(P.info? e).map fun i=>(n,i.size)
 | _=>none
section
variable {P:Program} {N:Fm} {σ:Nat→Value} {w:World} {dst:Option Nat} {ty:TypeId} {pos :String} {af:Array Edge} {g:Option (Nat×Bool)} {x y:Operand}
theorem kh {t n q b off :Nat} {k:IntKind} {i:Int} (he:qh P t=some (n,q)) (A:ev N σ x= .pointer (some ⟨b,off,none⟩)) (C:ev N σ y= .int k i) (a:0≤i∧i < n):
 (execOp (ev N σ) ⟨dst,.indexAddr t x y,ty,pos,af,g⟩).run P w= .ok (.value<|.pointer<|some ⟨b,off+i.toNat*q,none⟩) w:=by
 unfold qh at he
 cases hd:P.underlying t with
 | none=>rw [hd] at he; cases he
 | some d=>
   rw [hd] at he
   cases d <;> first | (cases he; done) | skip
   rename_i m e
   cases hi:P.info? e with
   | none=>simp [hi] at he
   | some j=>
     simp only [hi,mm,fU,sv] at he
     obtain ⟨rfl,rfl⟩:=he
     simp [execOp,Instr.indexAt,qW,A,C,asIntOf,eB hd,a.1,a.2,sizeOf,ja hi,mu]
end
theorem VG {h:Array Obj} {b:Nat} {a:List UInt8} (i:bO h b (marksOf a)) (c:UInt8):Hb.aO h b (0 +((c.toNat:Nat):Int).toNat*1)=some (.bool<|decide (c∈a)):=by
 rw [i.aO,show 0 +((c.toNat:Nat):Int).toNat*1=c.toNat from by omega]; exact VD a c
theorem VH {h:Array Obj} {b:Nat} {a:List UInt8} {c:UInt8} (i:bO h b ((marksOf a).set (0 +((c.toNat:Nat):Int).toNat*1)<|.bool true)):bO h b (marksOf<|a++ [c]):=by
 rw [show 0 +((c.toNat:Nat):Int).toNat*1=c.toNat from by omega,VF] at i; exact i
end Go.Hb
end
section
namespace Go.Hb
theorem UW (c:UInt8):∀ l:List UInt8,MQ l c=e9 c l:=by
 intro l
 induction l with
 | nil=>rfl
 | cons b l A=>
   unfold MQ
   rw [A]
   rw [show e9 c (b::l)=if (b::l).idxOf c < (b::l).length then ((b::l).idxOf c:Int) else -1 from rfl,List.idxOf_cons]
   by_cases h:(b==c)=true
   · rw [if_pos h,h]; rfl
   · have i:(b==c)=false :=by simpa using h
     rw [if_neg h,i]
     simp only [cond_false,cO]
     by_cases h1:l.idxOf c < l.length
     · have a:e9 c l=l.idxOf c:=if_pos h1
       rw [a,if_neg (fun q=>by have :=eq_of_beq q; omega),if_pos ab]; rfl
     · have a:e9 c l= -1:=if_neg h1
       rw [a,if_pos az,if_neg ab]
theorem XD {P:Program} {f:FuncId} {fn:Func} (i:P.funcs[f]? =some fn) (q:(fn.name== "runtime.NumGoroutine")=false) (a:fn.body.isNone=true) (hn:MH fn=none)
 (he:MG fn=some ZL) (l:List UInt8) (c:UInt8) (w:World):(callFunc f #[str l,.int .u8 c.toNat]).run P w= .ok (.value<|.int .i64<|e9 c l) w:=by
 rw [run_callFunc_extern i q a hn he]
 unfold str
 rw [Lib.run_indexByteString]
 have h1:((c.toNat:Int)).toNat.toUInt8=c:=k8.1<|by simp
 rw [h1,UW]
 rfl
theorem XC {P:Program} {f:FuncId} {fn:Func} (i:P.funcs[f]? =some fn) (q:(fn.name== "runtime.NumGoroutine")=false) (a:fn.body.isNone=true) (hn:MH fn=none)
 (he:MG fn=some ZK) (l:List UInt8) (c:UInt8) (w:World):(callFunc f #[str l,.int .u8 c.toNat]).run P w= .ok (.value<|.int .i64 (l.count c:Nat)) w:=by
 rw [run_callFunc_extern i q a hn he]
 unfold str
 rw [Lib.run_countString]
 have h1:((c.toNat:Int)).toNat.toUInt8=c:=k8.1<|by simp
 rw [h1]
 rfl
section
variable {P:Program} {N:Fm} {σ:Nat→Value} {w:World} {dst:Option Nat} {ty:TypeId} {pos :String} {af:Array Edge} {g:Option (Nat×Bool)}
theorem Gy {f:FuncId} {a b v:Value} {args:Array Operand} {i:Array TypeId} (h:(callFunc f #[a,b]).run P w= .ok (.value v) w) (q:args.toList.map (ev N σ)= [a,b]):
 (execOp (ev N σ) ⟨dst,.call ⟨.value (.func f),args,i⟩,ty,pos,af,g⟩).run P w= .ok (.value v) w:=by
 have :args.map (ev N σ)= #[a,b]:=by rw [← zm,nu,q]
 simp [execOp,resolve,ev,qV,invoke,this,h]
end
end Go.Hb
end
section
namespace Go.Hb
theorem XJ {L:List Value} {o:Nat} {v:Value} (h:o < L.length):(L.set o v).take (o+1)=L.take o++ [v]:=by
 rw [List.set_eq_take_append_cons_drop,if_pos h,wO,dR,o6 ab,Nat.add_sub_cancel_left,eM (by rw [dR]; omega)]
 rfl
theorem XI {L:List Value} {o m:Nat} {v:Value} (h:o < m):(L.set o v).drop m=L.drop m:=by
 rw [List.drop_set,if_pos h]
theorem KL (b e:Nat):∀ (vs:List Value) (o:Nat) (L:List Value) (w:World),w.heap[b]? =some (.cells L.toArray e (0,0))→o+vs.length≤L.length→
 (w.setCells b o vs).heap[b]? =some (.cells (L.take o++vs++L.drop (o+vs.length)).toArray e (0,0))∧Md (fun k=>k=b) w (w.setCells b o vs):=by
 intro vs
 induction vs with
 | nil=>intro o L w a _; exact ⟨by simpa [World.setCells] using a,Md.refl _ _⟩
 | cons v r E=>
   intro o L w a q
   simp only [cO] at q
   have h1:(w.setCell ⟨b,o,none⟩ v).heap[b]? =some (.cells (L.set o v).toArray e (0,0)):=by
    have A:=(cU.1 a).1
    have C:w.heap[b]= .cells L.toArray e (0,0):=(cU.1 a).2
    simp only [zA]
    rw [Array.getElem?_eq_getElem (by simpa using A),Array.getElem_modify]
    simp [C,List.setIfInBounds_toArray]
   have i:Md (fun k=>k=b) w (w.setCell ⟨b,o,none⟩ v):=⟨rfl,rfl,by simp [zA],fun k _ hk=>Below.heap_setCell w _ v k hk⟩
   obtain ⟨h2,h3⟩:=E (o+1) (L.set o v) _ h1<|by rw [List.length_set]; omega
   refine ⟨?_,Md.trans i h3⟩
   show ((w.setCell ⟨b,o,none⟩ v).setCells b (o+1) r).heap[b]? =_
   rw [h2,XJ ab,XI ab,cO,show o+1 +r.length=o+(r.length+1) from by omega]
   simp
section
variable {P:Program} {N:Fm} {σ:Nat→Value} {w:World} {ty:TypeId} {pos :String} {af:Array Edge} {g:Option (Nat×Bool)} {x:Operand} {K:(Nat→Value)→World→Prop}
theorem Q2 {t e B n k cp E m:Nat} {a:Option Addr} {xs:List Value} {z:Value} (ah:P.underlying t=some (.slice e)) (aj:zeroV P e=some z) (h1:z.oneCell'=true) (Y:w.ownsRow B e 1 (.slice a n cp) n xs)
 (G:ev N σ x= .slice (gq a cp k 1) m E) (hm:m=n - k) (hk:k < n) (ak:∀ w',Md (fun q=>(bR a n cp).ownBlock=some q) w w'→w'.ownsRow B e 1 (.slice a n cp) n (xs.take k++kp (n - k) z)→K σ w'):
 dP P N ⟨none,.call ⟨.builtin .clear,#[x],#[t]⟩,ty,pos,af,g⟩ σ w K:=by
 obtain ⟨J,h⟩:=Y
 subst hm
 rcases h with ⟨h,rfl⟩ | ⟨i,al,cur,h,M,U,hle,O,ag,ai⟩
 · omega
 · simp only [mQ,true_and] at h
   obtain ⟨rfl,rfl⟩:=h
   have ae:gq (some ⟨i,0,none⟩) cp k 1=some ⟨i,k,none⟩:=by
    unfold gq; rw [if_neg ab]; simp [mu]
   rw [ae] at G
   have C:w.heap[i]? =some (.cells cur.toList.toArray e (0,0)):=by simpa using U
   have A:cur.toList.length=cp*1:=by rw [vS]; exact ag
   have ac:=MR (P:=P) w t e ty z ah (fun w=>zi aj w) (by cases z <;> first | rfl | (cases h1; done)) h1 i k (n - k) E ab
    (fun j V=>by rw [nG,aX C]; simp; omega) (fun j V=>by simp only [M0,show w.heap[i]? =_ from C]; simp)
   obtain ⟨h2,h3⟩:=KL i e (kp (n - k) z) k cur.toList w C<|by rw [oo,A]; omega
   refine oc (w':=w.setCells i k<|kp (n - k) z) (v:= .tuple #[]) ?_ (ak _ (h3.mono fun q _ Z=>by subst Z; rfl) ⟨?_,.inr ⟨i,cp,_,aa,M,h2,hle,O,?_,?_⟩⟩)
   · simp [execOp,resolve,invoke,builtin,G,ac]
   · rw [bL,dR,oo,J]; omega
   · simp only [ot,bL,dR,fT,oo,A]; omega
   · rw [oo,o7]
     have I:(cur.toList.take k++kp (n - k) z++cur.toList.drop (k+(n - k))).toArray.toList=(cur.toList.take k++kp (n - k) z)++cur.toList.drop (k+(n - k)):=rfl
     rw [I,wO,bL,dR,oo,A,o6 ab,show n - (k+(n - k))=0 by omega,ou,eh,eM (by rw [bL,dR,oo,A]; omega)]
     rw [← ai,Nv,o7,o6 ab]
theorem Q3 {t e B n cp E m:Nat} {a:Option Addr} {xs:List Value} {z:Value} (ai:P.underlying t=some (.slice e)) (ak:zeroV P e=some z) (h1:z.oneCell'=true) (Z:w.ownsRow B e 1 (.slice a n cp) n xs) (O:a≠none)
 (G:ev N σ x= .slice (gq a cp n 1) m E) (hm:0 < m∧n+m≤cp) (al:∀ w',Md (fun q=>(bR a n cp).ownBlock=some q) w w'→w'.ownsRow B e 1 (.slice a n cp) n xs→K σ w'):
 dP P N ⟨none,.call ⟨.builtin .clear,#[x],#[t]⟩,ty,pos,af,g⟩ σ w K:=by
 obtain ⟨J,h⟩:=Z
 rcases h with ⟨h,rfl⟩ | ⟨i,am,cur,h,M,V,hle,U,ah,aj⟩
 · simp only [mQ] at h; exact absurd h.1 O
 · simp only [mQ,true_and] at h
   obtain ⟨rfl,rfl⟩:=h
   have ag:gq (some ⟨i,0,none⟩) cp n 1=some ⟨i,n,none⟩:=by
    unfold gq; rw [if_neg ab]; simp [mu]
   rw [ag] at G
   have C:w.heap[i]? =some (.cells cur.toList.toArray e (0,0)):=by simpa using V
   have A:cur.toList.length=cp*1:=by rw [vS]; exact ah
   have ae:=MR (P:=P) w t e ty z ai (fun w=>zi ak w) (by cases z <;> first | rfl | (cases h1; done)) h1 i n m E hm.1
    (fun j Y=>by rw [nG,aX C]; simp; omega) (fun j Y=>by simp only [M0,show w.heap[i]? =_ from C]; simp)
   obtain ⟨h2,h3⟩:=KL i e (kp m z) n cur.toList w C<|by rw [oo,A]; omega
   refine oc (w':=w.setCells i n<|kp m z) (v:= .tuple #[]) ?_ (al _ (h3.mono fun q _ ac=>by subst ac; rfl) ⟨J,.inr ⟨i,cp,_,aa,M,h2,hle,U,?_,?_⟩⟩)
   · simp [execOp,resolve,invoke,builtin,G,ae]
   · simp only [ot,bL,dR,fT,oo,A]; omega
   · rw [oo,o7]
     have I:(cur.toList.take n++kp m z++cur.toList.drop (n+m)).toArray.toList=cur.toList.take n++(kp m z++cur.toList.drop (n+m)):=dD _ _ _
     rw [I,wO,dR,A,o6 ab,Nat.sub_self,ou,eh,eM (by rw [dR]; omega),← aj,o7]
end
end Go.Hb
end
section
namespace Go.Hb
def Ac (P:Program) (t:TypeId):Option (List Value):=
 match P.info? t,P.underlying t with
 | some it,some (.array _ e)=>
   match it.zero,P.info? e with
   | some z,some ie=>if ie.size=1 then some z.cells.toList else none
   | _,_=>none
 | _,_=>none
def vt:List Value→List (Nat×Value)→Option (List Value)
 | a,[]=>some a
 | a,(i,v)::r=>if (v.oneCell' && gD i a.length)=true then vt (a.set i v) r else none
theorem WR {a L:List Value} {ps:List (Nat×Value)} (h:vt a ps=some L):oX (fun i=>some (i*1,1)) a.toArray ps=some L.toArray:=by
 induction ps generalizing a with
 | nil=>simp only [vt,fU] at h; subst h; rfl
 | cons q r E=>
   obtain ⟨i,v⟩:=q
   rw [vt] at h
   split at h
   · rename_i A
     simp only [gT] at A
     have C:=qK A.1
     have G:i < a.length:=Nat.le_of_ble_eq_true A.2
     simp only [oX,C,o7]
     rw [if_neg (by simp; omega)]
     have :=E h
     simp only [o7] at this
     rw [← this]
     simp
   · cases h
section
variable {P:Program} {N:Fm} {σ:Nat→Value} {w:World} {dst:Option Nat} {ty:TypeId} {pos :String} {af:Array Edge} {g:Option (Nat×Bool)}
theorem Fj {t:TypeId} {parts:Array (Nat×Operand)} {a L:List Value} {ps:List (Nat×Value)} (h:Ac P t=some a) (hp:parts.toList.map (fun q=>(q.1,ev N σ q.2))=ps) (i:vt a ps=some L):
 (execOp (ev N σ) ⟨dst,.build t parts,ty,pos,af,g⟩).run P w= .ok (.value<|.agg L.toArray) w:=by
 unfold Ac at h
 split at h
 · rename_i it n e hi hu
   split at h
   · rename_i z E C he
     split at h
     · rename_i hs
       simp only [fU] at h
       subst h
       have A:P.built t (parts.map fun q=>(q.1,ev N σ q.2)).toList=some L.toArray:=by
        have :=WR i
        simp only [Array.toArray_toList] at this
        simp only [Program.built,hi,hu,C,he,hs,nu,hp]; exact this
       simp [execOp,run_build w t _ _ A]
     · cases h
   · cases h
 · cases h
end
end Go.Hb
end
section
namespace Go.Hb
abbrev bD:Type :=Tx×List Nat
noncomputable def ga (F:aR) (row:List Tx):Except Nat bD:=
 if row.length≠1 then .error 111
 else if (bA<|row.getD 0 []).2.2.2≠0 then .error (bA<|row.getD 0 []).2.2.2
 else if gv (bA<|row.getD 0 []).1=false∨(bA<|row.getD 0 []).1= [] then .error 21
 else if 64 < (bA<|row.getD 0 []).1.length then .error 22
 else if (bA<|row.getD 0 []).2.2.1=false then .ok ((bA<|row.getD 0 []).1,[])
 else match fV F.kind F.aliases (bA<|row.getD 0 []).2.1 with
  | .error e=> .error e
  | .ok set =>if set.all (eG F)=true then .ok ((bA<|row.getD 0 []).1,set) else .error 120
section
variable {F:aR} {row:List Tx}
theorem Hf (h:row.length≠1):ga F row= .error 111:=if_pos h
theorem xJ (h:row.length=1) (h1:(bA<|row.getD 0 []).2.2.2≠0):ga F row= .error (bA<|row.getD 0 []).2.2.2:=by
 unfold ga; rw [if_neg (fun h2=>h2 h),if_pos h1]
variable (h:row.length=1) (h1:(bA (row.getD 0 [])).2.2.2=0)
include h h1
theorem xK (h2:gv (bA<|row.getD 0 []).1=false∨(bA<|row.getD 0 []).1= []):ga F row= .error 21:=by
 unfold ga; rw [if_neg (fun h2=>h2 h),if_neg (fun h2=>h2 h1),if_pos h2]
variable (h2:gv (bA (row.getD 0 [])).1=true) (h3:(bA (row.getD 0 [])).1≠[])
include h2 h3
omit h h1 in
theorem uG:¬(gv (bA<|row.getD 0 []).1=false∨(bA<|row.getD 0 []).1= []):=fun h=>h.elim (fun h=>by rw [h2] at h; cases h) h3
theorem Hg (h4:64 < (bA<|row.getD 0 []).1.length):ga F row= .error 22:=by
 unfold ga; rw [if_neg (fun h2=>h2 h),if_neg (fun h2=>h2 h1),if_neg (uG h2 h3),if_pos h4]
variable (h4:¬64 < (bA (row.getD 0 [])).1.length)
include h4
theorem Hh (h5:(bA<|row.getD 0 []).2.2.1=false):ga F row= .ok ((bA<|row.getD 0 []).1,[]):=by
 unfold ga; rw [if_neg (fun h2=>h2 h),if_neg (fun h2=>h2 h1),if_neg (uG h2 h3),if_neg h4,if_pos h5]
variable (h5:(bA (row.getD 0 [])).2.2.1=true)
include h5
theorem Hi {e:Nat} (a:fV F.kind F.aliases (bA<|row.getD 0 []).2.1= .error e):ga F row= .error e:=by
 unfold ga; rw [if_neg (fun h2=>h2 h),if_neg (fun h2=>h2 h1),if_neg (uG h2 h3),if_neg h4,if_neg (by rw [h5]; exact ee),a]
theorem Hj {set :List Nat} {i:Nat} (a:fV F.kind F.aliases (bA<|row.getD 0 []).2.1= .ok set) (hi:i < set.length) (q:eG F (set.getD i 0)=false):ga F row= .error 120:=by
 unfold ga; rw [if_neg (fun h2=>h2 h),if_neg (fun h2=>h2 h1),if_neg (uG h2 h3),if_neg h4,if_neg (by rw [h5]; exact ee),a]
 exact if_neg<|by rw [E5 0 hi q]; exact ee
theorem Bj {set :List Nat} (a:fV F.kind F.aliases (bA<|row.getD 0 []).2.1= .ok set) (q:∀ i,i < set.length→eG F (set.getD i 0)=true):ga F row= .ok ((bA<|row.getD 0 []).1,set):=by
 unfold ga; rw [if_neg (fun h2=>h2 h),if_neg (fun h2=>h2 h1),if_neg (uG h2 h3),if_neg h4,if_neg (by rw [h5]; exact ee),a]
 exact if_pos<|E7 0 q
end
noncomputable def e8 (F:aR) (eof:Nat):Nat→List Rw→Except (Nat×Nat) (List bD)
 | 0,[]=> .ok []
 | _+1,[]=> .error (eof,116)
 | 0,(ln,_)::_=> .error (ln,116)
 | n+1,(ln,row)::rows=>match ga F row with
   | .error e=> .error (ln,e)
   | .ok x=>match e8 F eof n rows with
     | .error e=> .error e
     | .ok r=> .ok (x::r)
noncomputable def fg (F:aR) (t:Tx):Except (Nat×Nat) (List bD):=
 if 65536 < t.length then .error (0,10)
 else match bP t with
  | []=> .error ((bH t).length+1,116)
  | (ln,row)::rows=>if row.length≠1 then .error (ln,111) else match eX (row.getD 0 []) 8192 with
    | .error e=> .error (ln,e)
    | .ok n=>e8 F ((bH t).length+1) n rows
def iO (F:aR) (eof:Nat) (T:Except (Nat×Nat) (List bD)) (xs:List bD) (n:Nat) (rows:List Rw):Prop :=
 T=match e8 F eof n rows with
  | .error e=> .error e
  | .ok r=> .ok<|xs++r
section
variable {F:aR} {eof n ln:Nat} {T:Except (Nat×Nat) (List bD)} {xs:List bD} {rows:List Rw} {row:List Tx}
theorem iO.start:iO F eof (e8 F eof n rows) [] n rows:=by
 unfold iO; cases e8 F eof n rows <;> rfl
theorem iO.done (h:iO F eof T xs 0 []):T= .ok xs:=by
 unfold iO at h; rw [e8] at h; simpa using h
theorem iO.ends (h:iO F eof T xs n []) (hn:0 < n):T= .error (eof,116):=by
 obtain ⟨m,rfl⟩:∃ m,n=m+1:=⟨n - 1,ab⟩
 unfold iO at h; rw [e8] at h; exact h
theorem iO.more (h:iO F eof T xs 0 ((ln,row)::rows)):T= .error (ln,116):=by
 unfold iO at h; rw [e8] at h; exact h
theorem iO.bad {e:Nat} (h:iO F eof T xs n ((ln,row)::rows)) (hn:0 < n) (he:ga F row= .error e):T= .error (ln,e):=by
 obtain ⟨m,rfl⟩:∃ m,n=m+1:=⟨n - 1,ab⟩
 unfold iO at h; rw [e8,he] at h; exact h
theorem iO.step {x:bD} (h:iO F eof T xs n ((ln,row)::rows)) (hn:0 < n) (he:ga F row= .ok x):iO F eof T (xs++ [x]) (n - 1) rows:=by
 obtain ⟨m,rfl⟩:∃ m,n=m+1:=⟨n - 1,ab⟩
 unfold iO at h ⊢; rw [e8,he] at h
 rw [h,sr]
 simp only
 cases e8 F eof m rows <;> simp
end
section
variable {F:aR} {t:Tx}
theorem G6 (h:65536 < t.length):fg F t= .error (0,10):=if_pos h
theorem G7 (h:¬65536 < t.length) (h1:bP t= []):fg F t= .error ((bH t).length+1,116):=by
 unfold fg; rw [if_neg h,h1]
variable {ln:Nat} {row:List Tx} {rows:List Rw} (h:¬65536 < t.length) (h1:bP t=(ln,row)::rows)
include h h1
theorem Sg (h2:row.length≠1):fg F t= .error (ln,111):=by
 unfold fg; rw [if_neg h,h1]; exact if_pos h2
theorem Sj (h2:row.length=1) {e:Nat} (h3:eX (row.getD 0 []) 8192= .error e):fg F t= .error (ln,e):=by
 unfold fg; rw [if_neg h,h1]; simp only; rw [if_neg (fun h=>h h2),h3]
theorem G5 (h2:row.length=1) {n:Nat} (h3:eX (row.getD 0 []) 8192= .ok n):fg F t=e8 F ((bH t).length+1) n rows:=by
 unfold fg; rw [if_neg h,h1]; simp only; rw [if_neg (fun h=>h h2),h3]
end
theorem TJ {α:Type} {a b:List α} {i:Nat} {d:α} (h:i < a.length):(a++b).getD i d=a.getD i d:=by
 rw [cR,cR,ml h]
def idxs (s:Tx) (xs:List bD):List Nat:=(j7 xs.length).filter fun i=>decide ((xs.getD i ([],[])).1=s)
theorem Cm (s:Tx) (xs:List bD) (x:bD):idxs s (xs++ [x])=idxs s xs++(if x.1=s then [xs.length] else []):=by
 unfold idxs
 rw [bL,List.length_singleton,List.range_succ,List.filter_append]
 congr 1
 · refine List.filter_congr fun i hi=> ?_
   have hi:i < xs.length:=by simpa using hi
   rw [TJ hi]
 · by_cases a:x.1=s <;> simp [List.filter,a]
theorem IW (s:Tx) (xs:List bD):(idxs s xs).length≤xs.length:=by
 unfold idxs; have :=zE (fun i=>decide ((xs.getD i ([],[])).1=s)) (j7 xs.length); simpa using this
theorem SC {F:aR} {eof:Nat} :∀ {n:Nat} {rows:List Rw} {r:List bD},e8 F eof n rows= .ok r→r.length=n∧rows.length=n:=by
 intro n
 induction n with
 | zero=>
   intro rows r h
   cases rows with
   | nil=>rw [e8] at h; cases h; exact ⟨rfl,rfl⟩
   | cons q rows=>rw [e8] at h; cases h
 | succ n a=>
   intro rows r h
   cases rows with
   | nil=>rw [e8] at h; cases h
   | cons q rows=>
     rw [e8] at h
     split at h
     · cases h
     · split at h
       · cases h
       · rename_i h2
         cases h
         have :=a h2
         simp only [cO]; omega
end Go.Hb
end
section
namespace Go.Hb
section
variable {P:Program} {N:Fm} {σ:Nat→Value} {w:World} {dst:Option Nat} {ty:TypeId} {pos :String} {af:Array Edge} {g:Option (Nat×Bool)} {x:Operand}
theorem Oq {t n i b:Nat} (he:qh P t=some (n,i)) (a:ev N σ x= .pointer (some ⟨b,0,none⟩)):
 (execOp (ev N σ) ⟨dst,.slice t x none none none,ty,pos,af,g⟩).run P w= .ok (.value<|.slice (some ⟨b,0,none⟩) n n) w:=by
 unfold qh at he
 cases hd:P.underlying t with
 | none=>rw [hd] at he; cases he
 | some d=>
   rw [hd] at he
   cases d <;> first | (cases he; done) | skip
   rename_i m e
   cases hi:P.info? e with
   | none=>simp [hi] at he
   | some j=>
     simp only [hi,mm,fU,sv] at he
     obtain ⟨rfl,rfl⟩:=he
     simp [execOp,sc,qW,oY,a,eB hd,sizeOf,ja hi,mu]
def Bv (P:Program) (t f:Nat):Option (Nat×Nat):=
 match P.underlying t with
 | some (.struct fs)=>(fs[f]?).map fun d=>(d.type,d.offset)
 | _=>none
theorem Ta {t f q off n:Nat} {cs vs:List Value} (h:Bv P t f=some (q,off)) (a:dw P q=some (some n)) (E:ev N σ x= .agg cs.toArray) (C:(cs.drop off).take n=vs):
 (execOp (ev N σ) ⟨dst,.field t x f,ty,pos,af,g⟩).run P w= .ok (.value<|.agg vs.toArray) w:=by
 subst C
 unfold Bv at h
 cases hd:P.underlying t with
 | none=>rw [hd] at h; cases h
 | some d=>
   rw [hd] at h
   cases d <;> first | (cases h; done) | skip
   rename_i fs
   simp only [pc] at h
   obtain ⟨fd,A,he⟩:=h
   cases he
   unfold dw at a
   cases hd2:P.underlying fd.type with
   | none=>rw [hd2] at a; cases a
   | some d2=>
     rw [hd2] at a
     cases hi:P.info? fd.type with
     | none=>simp [MT,hi] at hd2
     | some i=>
       rw [hi] at a
       have G:cs.toArray.extract fd.offset (fd.offset+n)=((cs.drop fd.offset).take n).toArray:=by simp
       cases d2 <;> first
        | (cases a; done)
        | (simp only [mm,fU] at a; subst a
           simp [execOp,ML,eB hd,A,E,asAgg,part,isAgg,eB hd2,sizeOf,ja hi])
end
end Go.Hb
end
section
namespace Go.Hb
def nH:cX:=⟨0,0,false,0,0⟩
def gI (F:aR):cX:=F.bw.getD (F.bw.length - 1) nH
noncomputable def iW (F:aR) (ln:Nat) (row:List Tx):Except Nat aR:=
 if row.getD 0 []=ff then (match kJ ln row with | .error e=> .error e | .ok x=> .ok {F with dd:=F.dd++ [x]})
 else if row.getD 0 []=eI then (match ku F.kind ln row with | .error e=> .error e | .ok x=> .ok {F with aliases:=F.aliases++ [x]})
 else match fI F.kind F.aliases (gI F) ln row with | .error e=> .error e | .ok x=> .ok {F with rules:=F.rules++ [x]}
noncomputable def gO (hd:List Tx) (eof:Nat):Nat→aR→List Rw→Except (Nat×Nat) (aR×List Rw)
 | 0,F,rows=> .ok (F,rows)
 | _+1,F,[]=> .error (eof,116)
 | n+1,F,(ln,row)::rows=>if row.take hd.length≠hd then .error (ln,116) else match iW F ln row with
   | .error e=> .error (ln,e)
   | .ok F'=>gO hd eof n F' rows
theorem y1 {row:List Tx} {k:Tx} (h:row≠[]):row.take [k].length= [k]↔row.getD 0 []=k:=by
 cases row with
 | nil=>exact absurd rfl h
 | cons a l=>simp
theorem y2 {row:List Tx} {k j:Tx} :row.take [k,j].length= [k,j]↔2≤row.length∧row.getD 0 []=k∧row.getD 1 []=j:=by
 match row with
 | []=>simp
 | [a]=>simp
 | a::b::l=>simp
section
variable {eof:Nat}
theorem TS:∀ (n:Nat) (F:aR) (rows:List Rw),gO [ff] eof n F rows=match group [ff] kJ eof n rows with | .error e=> .error e | .ok r=> .ok ({F with dd:=F.dd++r.1},r.2):=by
 intro n
 induction n with
 | zero=>intro F rows; simp [gO,group]
 | succ n A=>
   intro F rows
   cases rows with
   | nil=>simp [gO,group]
   | cons q rows=>
     obtain ⟨ln,row⟩:=q
     simp only [gO,group]
     by_cases a:row.take [ff].length≠[ff]
     · rw [if_pos a,if_pos a]
     · rw [if_neg a,if_neg a]
       have i:row.getD 0 []=ff:=by
        refine (y1 ?_).1<|jk.1 a
        rintro rfl; exact a<|by simp
       unfold iW
       rw [if_pos i]
       cases kJ ln row with
       | error e=>rfl
       | ok x=>
         simp only
         rw [A]
         cases group [ff] kJ eof n rows with
         | error e=>rfl
         | ok r=>simp only [dD]; rfl
theorem TR:∀ (n:Nat) (F:aR) (rows:List Rw),gO [eI] eof n F rows=match group [eI] (ku F.kind) eof n rows with | .error e=> .error e | .ok r=> .ok ({F with aliases:=F.aliases++r.1},r.2):=by
 intro n
 induction n with
 | zero=>intro F rows; simp [gO,group]
 | succ n A=>
   intro F rows
   cases rows with
   | nil=>simp [gO,group]
   | cons q rows=>
     obtain ⟨ln,row⟩:=q
     simp only [gO,group]
     by_cases a:row.take [eI].length≠[eI]
     · rw [if_pos a,if_pos a]
     · rw [if_neg a,if_neg a]
       have i:row.getD 0 []=eI:=by
        refine (y1 ?_).1<|jk.1 a
        rintro rfl; exact a<|by simp
       unfold iW
       rw [if_neg (by rw [i]; decide),if_pos i]
       cases ku F.kind ln row with
       | error e=>rfl
       | ok x=>
         simp only
         rw [A]
         cases group [eI] (ku F.kind) eof n rows with
         | error e=>rfl
         | ok r=>simp only [dD]; rfl
theorem TT {a h1:Tx} (hk:a≠ff) (C:a≠eI):∀ (n:Nat) (F:aR) (rows:List Rw),gO [a,h1] eof n F rows=match group [a,h1] (fI F.kind F.aliases<|gI F) eof n rows with | .error e=> .error e | .ok r=> .ok ({F with rules:=F.rules++r.1},r.2):=by
 intro n
 induction n with
 | zero=>intro F rows; simp [gO,group]
 | succ n E=>
   intro F rows
   cases rows with
   | nil=>simp [gO,group]
   | cons q rows=>
     obtain ⟨ln,row⟩:=q
     simp only [gO,group]
     by_cases i:row.take [a,h1].length≠[a,h1]
     · rw [if_pos i,if_pos i]
     · rw [if_neg i,if_neg i]
       have A:row.getD 0 []=a:=(y2.1<|jk.1 i).2.1
       unfold iW
       rw [if_neg (by rw [A]; exact hk),if_neg (by rw [A]; exact C)]
       cases fI F.kind F.aliases (gI F) ln row with
       | error e=>rfl
       | ok x=>
         simp only
         rw [E]
         show (match group [a,h1] (fI F.kind F.aliases<|gI F) eof n rows with | .error e=>_ | .ok r=>_)=_
         cases group [a,h1] (fI F.kind F.aliases<|gI F) eof n rows with
         | error e=>rfl
         | ok r=>simp only [dD]; rfl
end
section
variable {hd:List Tx} {eof n ln:Nat} {F:aR} {row:List Tx} {rows:List Rw} {T:Except (Nat×Nat) (aR×List Rw)}
theorem TP (h:gO hd eof n F []=T) (hn:0 < n):T= .error (eof,116):=by
 obtain ⟨m,rfl⟩:∃ m,n=m+1:=⟨n - 1,ab⟩
 exact h.symm
theorem Ca (h:gO hd eof n F ((ln,row)::rows)=T) (hn:0 < n) (a:row.take hd.length≠hd):T= .error (ln,116):=by
 obtain ⟨m,rfl⟩:∃ m,n=m+1:=⟨n - 1,ab⟩
 rw [← h,gO,if_pos a]
theorem TN {e:Nat} (h:gO hd eof n F ((ln,row)::rows)=T) (hn:0 < n) (a:row.take hd.length=hd) (he:iW F ln row= .error e):T= .error (ln,e):=by
 obtain ⟨m,rfl⟩:∃ m,n=m+1:=⟨n - 1,ab⟩
 rw [← h,gO,if_neg (fun h2=>h2 a),he]
theorem TQ {F':aR} (h:gO hd eof n F ((ln,row)::rows)=T) (hn:0 < n) (a:row.take hd.length=hd) (he:iW F ln row= .ok F'):gO hd eof (n - 1) F' rows=T:=by
 obtain ⟨m,rfl⟩:∃ m,n=m+1:=⟨n - 1,ab⟩
 rw [← h,gO,if_neg (fun h2=>h2 a),he]; rfl
theorem TO (h:gO hd eof 0 F rows=T):T= .ok (F,rows):=h.symm
end
def kF (head:List Tx):List Tx:=if head.length=4 then [head.getD 0 [],head.getD 1 []] else [head.getD 0 []]
theorem IJ {head:List Tx} (h:head.length≠4):kF head= [head.getD 0 []]:=if_neg h
theorem IK {head:List Tx} (h:head.length=4):kF head= [head.getD 0 [],head.getD 1 []]:=if_pos h
theorem Uo {head row:List Tx} (h:row.getD 0 []≠head.getD 0 []):row.take (kF head).length≠kF head:=by
 unfold kF
 split
 · exact fun h2=>h (y2.1 h2).2.1
 · intro h2
   cases row with
   | nil=>simp at h2
   | cons a l=>exact h<|(y1<|by simp).1 h2
theorem IM {head row:List Tx} (h4:head.length=4) (h:row.length < 2∨row.getD 1 []≠head.getD 1 []):row.take (kF head).length≠kF head:=by
 rw [IK h4]
 intro h2
 have :=y2.1 h2
 rcases h with h | h
 · omega
 · exact h this.2.2
theorem IN {head row:List Tx} (a:row.getD 0 []=head.getD 0 []) (i:row≠[]) (h1:head.length=4→2≤row.length∧row.getD 1 []=head.getD 1 []):row.take (kF head).length=kF head:=by
 unfold kF
 split
 · rename_i h4; exact y2.2 ⟨(h1 h4).1,a,(h1 h4).2⟩
 · exact (y1 i).2 a
def pR (k:Tx):Int:=if k∈ea then (ea.idxOf k:Nat) else -1
theorem tA {k:Tx} :(0≤pR k)↔k∈ea:=by
 unfold pR; split
 · rename_i h; exact ⟨fun _=>h,fun _=>by omega⟩
 · rename_i h; exact ⟨fun h2=>by omega,fun h2=>absurd h2 h⟩
end Go.Hb
end
namespace Go.Hb
def n7 (ps:List Tx) (w:Tx):Bool:=decide (ps.length≤w.length) && (j7 ps.length).all fun i=>cD (ps.getD i [])<|w.getD i 0
def qs (ps:List Tx) (w:Tx):Bool:=decide (ps.length≤w.length) && n7 ps (w.drop<|w.length - ps.length)
noncomputable def iF (r:c7) (w:Tx):Bool:=
 decide ((c8 r.cond).2=0∧r.strip.length < w.length) &&
  (if r.kind=2 then decide (w.drop (w.length - r.strip.length)=r.strip) && qs (c8 r.cond).1 w
   else if r.kind=1 then decide (w.take r.strip.length=r.strip) && n7 (c8 r.cond).1 w else false)
noncomputable def dA (r:c7) (w:Tx):Option Tx:=if iF r w=true then some (if r.kind=2 then w.take (w.length - r.strip.length)++r.add else r.add++w.drop r.strip.length) else none
def eY:c7:=⟨0,0,false,[],[],[],[],0⟩
def aU (F:aR) (fs:List Nat) (kind:Nat):List Nat:=(j7 F.rules.length).filter fun i=>decide ((F.rules.getD i eY).kind=kind∧(F.rules.getD i eY).flag∈fs)
def flagsOf (xs:List bD) (e:Int):List Nat:=if 0≤e∧e < xs.length then (xs.getD e.toNat ([],[])).2 else []
def cT (F:aR) (r:Int):List Nat:=if 0≤r∧r < F.rules.length then (F.rules.getD r.toNat eY).next else []
def rL (F:aR) (xs:List bD) (e:Int) (k:Nat):Bool:=decide (F.sp.getD k 0≠0∧F.sp.getD k 0∈flagsOf xs e)
def nL (F:aR) (r:Int):Bool:=decide (0≤r∧r < F.rules.length) && !decide (F.sp.getD 0 0≠0∧F.sp.getD 0 0∈cT F r)
structure bV where
 jx:Tx
 sV:Nat
 fst:Int
 snd:Int
 pre:Int
def lM (F:aR) (n:Int):Bool:=decide (n= -1) || (F.rules.getD n.toNat eY).ek
def fw (F:aR) (xs:List bD) (e:Nat) (f s p:Int):Bool:=
 if f= -1 then decide (p≠ -1) || !rL F xs e 0
 else if nL F (if s= -1 then f else s)=false then false
 else decide (p= -1) || (lM F f && lM F s && lM F p)
def kA (F:aR) (xs:List bD) (e:Nat) (word:Tx) (f s:Int):List bV:=if fw F xs e f s (-1)=true then [⟨word,e,f,s,-1⟩] else []
noncomputable def ju (F:aR) (xs:List bD) (e:Nat) (word:Tx) (f s:Int) (p:Nat):Option bV:=if fw F xs e f s p=true then (dA (F.rules.getD p eY) word).map (fun v=>(⟨v,e,f,s,(p:Int)⟩:bV)) else none
noncomputable def eC (F:aR) (xs:List bD) (e:Nat) (word:Tx) (f s:Int):List bV:=kA F xs e word f s++(aU F (flagsOf xs e) 1).filterMap (ju F xs e word f s)
noncomputable def jc (F:aR) (xs:List bD) (e:Nat) (w:Tx) (s:Int) (z:Nat):List bV:=match dA (F.rules.getD z eY) w with
 | none=> []
 | some v=>eC F xs e v s z
noncomputable def gd (F:aR) (xs:List bD) (e:Nat) (s:Nat):List bV:=match dA (F.rules.getD s eY) (xs.getD e ([],[])).1 with
 | none=> []
 | some w=>eC F xs e w s (-1)++(aU F (cT F s) 2).flatMap (jc F xs e w s)
noncomputable def jV (F:aR) (xs:List bD) (e:Nat):List bV:=
 eC F xs e (xs.getD e ([],[])).1 (-1) (-1)++(aU F (flagsOf xs e) 2).flatMap (gd F xs e)
def jQ (q:c7):Prop :=q.strip.length≤32∧q.add.length≤32∧q.cond.length≤4800
structure pk (F:aR):Prop where
 part:∀ (i:Nat) r,F.rules[i]? =some r→∃ c∈F.bw,c.first≤i∧i < c.first+c.count∧r.flag=c.flag∧r.kind=c.kind
 uF:∀ c∈F.bw,c.first+c.count≤F.rules.length∧∀ i,c.first≤i→i < c.first+c.count→∃ r,F.rules[i]? =some r∧r.flag=c.flag∧r.kind=c.kind
 uniq:(F.bw.map (·.flag)).Nodup
theorem Iy {α:Type} {hd:List Tx} {rd:Nat→List Tx→Except Nat α} {eof:Nat} :∀ (n:Nat) (rows:List Rw) (r:List α×List Rw),group hd rd eof n rows= .ok r→∀ x∈r.1,∃ ln row,rd ln row= .ok x:=by
 intro n
 induction n with
 | zero=>intro rows r h; simp only [group,r8] at h; subst h; intro x a; cases a
 | succ n i=>
   intro rows r h
   cases rows with
   | nil=>simp [group] at h
   | cons q rows=>
     obtain ⟨ln,row⟩:=q
     simp only [group] at h
     split at h
     · cases h
     · cases hr:rd ln row with
       | error e=>rw [hr] at h; cases h
       | ok y=>
         rw [hr] at h
         simp only at h
         cases hg:group hd rd eof n rows with
         | error e=>rw [hg] at h; cases h
         | ok A=>
           rw [hg] at h
           simp only [r8] at h
           subst h
           intro x a
           rcases gu.1 a with a | a
           · exact ⟨ln,row,by rw [a]; exact hr⟩
           · exact i rows A hg x a
theorem IS {eof ln:Nat} {F F':aR} {hs:List Tx} {rows rows':List Rw} {row:List Tx} (a:cg eof F hs rows ln row= .ok (F',rows')):
 (F'.aliases=F.aliases∧F'.bw=F.bw∧F'.rules=F.rules)∨
 (F'.bw=F.bw∧F'.rules=F.rules∧∃ l,F'.aliases=F.aliases++l∧∀ x∈l,∃ kd s,kU kd s= .ok x)∨
 (F'.aliases=F.aliases∧∃ c l,F'.bw=F.bw++ [c]∧F'.rules=F.rules++l∧c.first=F.rules.length∧c.count=l.length∧eG F c.flag=false∧∀ x∈l,∃ ln row,fI F.kind F.aliases c ln row= .ok x):=by
 unfold cg at a
 split at a
 · unfold ko at a; split at a <;> cases a; exact .inl ⟨rfl,rfl,rfl⟩
 split at a
 · unfold kH at a
   split at a
   · cases a
   · split at a <;> cases a; exact .inl ⟨rfl,rfl,rfl⟩
 split at a
 · unfold mK at a; split at a <;> cases a; exact .inl ⟨rfl,rfl,rfl⟩
 split at a
 · unfold mO at a; split at a <;> cases a; exact .inl ⟨rfl,rfl,rfl⟩
 split at a
 · unfold kX at a
   split at a
   · cases a
   · split at a <;> cases a; exact .inl ⟨rfl,rfl,rfl⟩
 split at a
 · unfold kn at a
   split at a
   · cases a
   · split at a <;> cases a; exact .inl ⟨rfl,rfl,rfl⟩
 split at a
 · unfold jS at a
   split at a
   · cases a
   · split at a
     · cases a
     · split at a
       · cases a
       · rename_i r q
         cases a
         refine .inr<|.inl ⟨aa,aa,r.1,aa,fun x a=> ?_⟩
         obtain ⟨ln,row,h⟩:=Iy _ _ _ q x a
         unfold ku at h
         split at h
         · cases h
         · exact ⟨_,_,h⟩
 · unfold gM at a
   split at a
   · cases a
   · rename_i x i
     split at a
     · cases a
     · split at a
       · cases a
       · split at a
         · cases a
         · split at a
           · cases a
           · rename_i r q
             cases a
             refine .inr<|.inr ⟨aa,_,r.1,aa,aa,aa,(yg _ _ _ q).2.1.symm,?_,fun x a=>Iy _ _ _ q x a⟩
             unfold gH at i
             split at i
             · cases i
             · split at i
               · cases i
               · rename_i h; cases i; simpa using h
theorem EP {Q:aR→Prop} (i:Q ic) (C:∀ (eof ln:Nat) (F F':aR) (hs:List Tx) (rows rows':List Rw) (row:List Tx),Q F→cg eof F hs rows ln row= .ok (F',rows')→Q F') {s:Tx} {F:aR} (h:fq s= .ok F):Q F:=by
 unfold fq at h
 split at h
 · cases h
 · split at h
   · cases h
   · rename_i f A
     split at h
     · cases h
     · cases h
       have key:∀ (k:Nat) (F F':aR) (hs:List Tx) (rows:List Rw) (eof:Nat),Q F→gJ eof k F hs rows= .ok F'→Q F':=by
        intro k
        induction k with
        | zero=>intro F F' hs rows eof h a; rw [gJ] at a; split at a <;> cases a; exact h
        | succ k G=>
          intro F F' hs rows eof h a
          cases rows with
          | nil=>simp only [gJ,r8] at a; exact a ▸ h
          | cons q rows=>
            rw [gJ] at a
            split at a
            · cases a
            · split at a
              · cases a
              · split at a
                · cases a
                · split at a
                  · cases a
                  · rename_i r E
                    exact G _ _ _ _ _ (C _ _ _ _ _ _ _ _ h E) a
       exact key _ _ _ _ _ _ i A
def lg (l:List Nat):Prop :=l.Pairwise (· < ·)∧0∉l
theorem Tu {kind:Nat} {s:Tx} (a:(dY kind s).2=0):lg (dY kind s).1:=by
 unfold dY at a ⊢
 by_cases h1:s= []
 · rw [if_pos h1] at a; cases a
 · rw [if_neg h1] at a ⊢
   by_cases h2:∃ x∈dF kind s,eH kind x=0
   · rw [if_pos h2] at a; cases a
   · rw [if_neg h2] at a ⊢
     by_cases h3:64 < (dF kind s).length
     · rw [if_pos h3] at a; cases a
     · rw [if_neg h3]
       refine ⟨CQ _,fun h4=> ?_⟩
       rw [CP,o4] at h4
       exact h2 h4
theorem If {kind:Nat} {s:Tx} {l:List Nat} (h:kU kind s= .ok l):lg l:=by
 unfold kU at h
 split at h
 · cases h
 · rename_i a
   cases h
   exact Tu<|jk.1 a
def sx (F:aR):Prop :=(∀ l∈F.aliases,lg l)∧∀ q∈F.rules,lg q.next∧jQ q
theorem HD {w:Tx} (h:¬gF w≠0):w.length≤32:=by
 unfold gF at h
 split at h
 · exact absurd az h
 · split at h
   · exact absurd az h
   · omega
theorem WI {b:Bool} {fd p:Tx} (h:eA b fd= .ok p):p.length≤32:=by
 unfold eA at h
 split at h
 · cases h; exact jP _
 · split at h
   · cases h
   · split at h
     · cases h
     · split at h
       · cases h
       · rename_i a; cases h; exact HD a
theorem NX {r:lJ} {p:Tx} (h:jH r= .ok p):p.length≤32:=by
 unfold jH at h
 split at h
 · cases h
 · split at h
   · cases h; exact jP _
   · split at h
     · cases h
     · rename_i a; cases h; exact HD a
theorem GF (s:Tx):(c8 s).1.length≤16:=by
 unfold c8
 split
 · simp
 · split
   · simp
   · split
     · simp
     · split
       · simp
       · simp only; omega
theorem XN:∀ {ps:List Tx},ps.length≤16→(ma ps).length≤4800:=by
 have key:∀ ps:List Tx,(ps.flatMap fun t=>gQ<|cD t).length≤ps.length*300:=by
  intro ps
  induction ps with
  | nil=>exact jP _
  | cons t ps a=>
    have :=Dp<|cD t
    rw [q7,bL,cO]; omega
 intro ps h
 unfold ma
 split
 · simp
 · have :=key ps; omega
theorem Ro {row:List Tx} {c:Tx} (h:kR row= .ok c):c.length≤4800:=by
 unfold kR at h
 split at h
 · split at h
   · cases h
   · split at h
     · cases h
     · cases h; exact XN<|GF _
 · cases h; simp
theorem u6:lg []:=⟨.nil,uh⟩
theorem HN {kind:Nat} {al:List (List Nat)} {s:Tx} {l:List Nat} (a:∀ l∈al,lg l) (h:fV kind al s= .ok l):lg l:=by
 unfold fV at h
 split at h
 · exact If h
 · split at h
   · cases h
   · split at h
     · cases h
     · cases h
       rename_i n _ _
       rw [cR]
       cases hg:al[n - 1]? with
       | none=>exact u6
       | some x=>exact a x<|iN hg
theorem Dl {kind ln:Nat} {al:List (List Nat)} {c:cX} {row:List Tx} {q:c7} (A:∀ l∈al,lg l) (h:fI kind al c ln row= .ok q):(lg q.next∧jQ q)∧q.flag=c.flag∧q.kind=c.kind∧q.ek=c.ek:=by
 unfold fI at h
 split at h
 · cases h
 · split at h
   · cases h
   · rename_i hp
     split at h
     · cases h
     · rename_i i
       split at h
       · cases h
       · rename_i nx a
         split at h
         · cases h
         · rename_i C
           cases h
           refine ⟨⟨?_,WI hp,NX i,Ro C⟩,aa,aa,aa⟩
           unfold kY at a
           split at a
           · split at a
             · cases a
             · exact HN A a
           · cases a; exact u6
theorem Bw {cs:List cX} {x:Nat} (h:(dW cs x).isSome=false):∀ c∈cs,c.flag≠x:=fun c a i=>by
 unfold dW at h
 have h1:cs.find? (fun c=>decide (c.flag=x))=none:=by
  cases h2:cs.find? (fun c=>decide (c.flag=x)) with
  | none=>rfl
  | some y=>rw [h2] at h; cases h
 have :=List.find?_eq_none.1 h1 c a
 simp [i] at this
theorem zS {s:Tx} {F:aR} (h:fq s= .ok F):sx F∧pk F:=by
 refine EP (Q:=fun F=>sx F∧pk F) ⟨⟨fun l U=>(by cases U),fun l U=>by cases U⟩,⟨fun i r h=>(by cases h),fun c h=>(by cases h),.nil⟩⟩ ?_ h
 rintro eof ln F F' hs rows rows' row ⟨C,E⟩ q
 refine ⟨?_,?_⟩
 · rcases IS q with ⟨h1,_,h3⟩ | ⟨_,h2,l,h3,h4⟩ | ⟨h1,c,l,_,h3,_,_,_,h4⟩
   · exact ⟨h1 ▸ C.1,h3 ▸ C.2⟩
   · refine ⟨fun x q=> ?_,h2 ▸ C.2⟩
     rw [h3] at q
     rcases jD.1 q with q | q
     · exact C.1 x q
     · obtain ⟨_,_,h⟩:=h4 x q; exact If h
   · refine ⟨h1 ▸ C.1,fun x q=> ?_⟩
     rw [h3] at q
     rcases jD.1 q with q | q
     · exact C.2 x q
     · obtain ⟨_,_,h⟩:=h4 x q; exact (Dl C.1 h).1
 · rcases IS q with ⟨_,h2,h3⟩ | ⟨h2,h3,_⟩ | ⟨_,c,l,h2,h3,h4,h5,O,Z⟩
   · exact ⟨by rw [h2,h3]; exact E.part,by rw [h2,h3]; exact E.uF,by rw [h2]; exact E.uniq⟩
   · exact ⟨by rw [h2,h3]; exact E.part,by rw [h2,h3]; exact E.uF,by rw [h2]; exact E.uniq⟩
   · have V:∀ i,F.rules.length≤i→i < F.rules.length+l.length→∃ r,F'.rules[i]? =some r∧r.flag=c.flag∧r.kind=c.kind:=fun i G J=>by
      have A:i - F.rules.length < l.length:=ab
      refine ⟨l[i - F.rules.length],?_,?_⟩
      · rw [h3,mS G,cC A]
      · obtain ⟨_,_,h⟩:=Z _ (List.getElem_mem A); exact ⟨(Dl C.1 h).2.1,(Dl C.1 h).2.2.1⟩
     refine ⟨fun i r G=> ?_,fun d hd=> ?_,?_⟩
     · by_cases J:i < F.rules.length
       · rw [h3,ml J] at G
         obtain ⟨d,hd,A⟩:=E.part i r G
         exact ⟨d,by rw [h2]; exact List.mem_append_left _ hd,A⟩
       · have A:i < F.rules.length+l.length:=by
          have :=(fS.1 G).1; rw [h3,bL] at this; exact this
         obtain ⟨ag,I,M⟩:=V i ab A
         rw [G] at I; cases I
         exact ⟨c,by rw [h2]; exact List.mem_append_right _ (j5.2 aa),ab,ab,M⟩
     · rw [h2] at hd
       rcases jD.1 hd with hd | hd
       · obtain ⟨G,J⟩:=E.uF d hd
         refine ⟨by rw [h3,bL]; omega,fun i A I=> ?_⟩
         obtain ⟨r,M,Y⟩:=J i A I
         exact ⟨r,by rw [h3,ml ab]; exact M,Y⟩
       · obtain rfl :=j5.1 hd
         refine ⟨by rw [h3,bL]; omega,fun i A I=>V i ab ab⟩
     · rw [h2,iu,Ey]
       refine ⟨E.uniq,by simp,fun a ac b ae=> ?_⟩
       obtain ⟨d,hd,rfl⟩:=o4.1 ac
       obtain rfl :b=c.flag:=by simpa using ae
       unfold eG at O
       rw [nv] at O
       exact Bw O.2 d hd
theorem Su {F:aR} {row:List Tx} {x:bD} (a:sx F) (h:ga F row= .ok x):lg x.2:=by
 unfold ga at h
 split at h
 · cases h
 · split at h
   · cases h
   · split at h
     · cases h
     · split at h
       · cases h
       · split at h
         · cases h; exact u6
         · split at h
           · cases h
           · rename_i set hs
             split at h
             · cases h; exact HN a.1 hs
             · cases h
theorem SB {F:aR} (A:sx F) {eof:Nat} :∀ {n:Nat} {rows:List Rw} {r:List bD},e8 F eof n rows= .ok r→∀ x∈r,lg x.2:=by
 intro n
 induction n with
 | zero=>
   intro rows r h
   cases rows with
   | nil=>rw [e8] at h; cases h; intro x a; cases a
   | cons q rows=>rw [e8] at h; cases h
 | succ n C=>
   intro rows r h
   cases rows with
   | nil=>rw [e8] at h; cases h
   | cons q rows=>
     rw [e8] at h
     split at h
     · cases h
     · rename_i x a
       split at h
       · cases h
       · rename_i h2
         cases h
         intro y i
         rcases gu.1 i with rfl | i
         · exact Su A a
         · exact C h2 y i
theorem Sh {F:aR} (a:sx F) {t:Tx} {xs:List bD} (h:fg F t= .ok xs):∀ x∈xs,lg x.2:=by
 unfold fg at h
 split at h
 · cases h
 · split at h
   · cases h
   · split at h
     · cases h
     · split at h
       · cases h
       · exact SB a h
theorem Sw {F:aR} {row:List Tx} {x:bD} (h:ga F row= .ok x):1≤x.1.length:=by
 unfold ga at h
 split at h
 · cases h
 · split at h
   · cases h
   · split at h
     · cases h
     · rename_i i
       have h1:1≤(bA<|row.getD 0 []).1.length:=by
        rcases Nat.eq_zero_or_pos (bA<|row.getD 0 []).1.length with a | a
        · exact absurd (Or.inr<|fW a) i
        · exact a
       split at h
       · cases h
       · split at h
         · cases h; exact h1
         · split at h
           · cases h
           · split at h
             · cases h; exact h1
             · cases h
theorem SE {F:aR} {eof:Nat} :∀ {n:Nat} {rows:List Rw} {r:List bD},e8 F eof n rows= .ok r→∀ x∈r,1≤x.1.length:=by
 intro n
 induction n with
 | zero=>
   intro rows r h
   cases rows with
   | nil=>rw [e8] at h; cases h; intro x a; cases a
   | cons q rows=>rw [e8] at h; cases h
 | succ n A=>
   intro rows r h
   cases rows with
   | nil=>rw [e8] at h; cases h
   | cons q rows=>
     rw [e8] at h
     split at h
     · cases h
     · rename_i x a
       split at h
       · cases h
       · rename_i h2
         cases h
         intro y i
         rcases gu.1 i with rfl | i
         · exact Sw a
         · exact A h2 y i
theorem Sk {F:aR} {t:Tx} {xs:List bD} (h:fg F t= .ok xs):∀ x∈xs,1≤x.1.length:=by
 unfold fg at h
 split at h
 · cases h
 · split at h
   · cases h
   · split at h
     · cases h
     · split at h
       · cases h
       · exact SE h
theorem rM {F:aR} {fs:List Nat} {k i:Nat} :i∈aU F fs k↔i < F.rules.length∧(F.rules.getD i eY).kind=k∧(F.rules.getD i eY).flag∈fs:=by
 unfold aU; simp
theorem JG (F:aR) (fs:List Nat) (k:Nat):(aU F fs k).Pairwise (· < ·):=ZM _ Nq
theorem rO (F:aR) (fs:List Nat) (k:Nat):(aU F fs k).length≤F.rules.length:=by
 unfold aU; have :=zE (fun i=>decide ((F.rules.getD i eY).kind=k∧(F.rules.getD i eY).flag∈fs)) (j7 F.rules.length); simpa using this
def gE (F:aR) (k f:Nat):List Nat:=match dW F.bw f with
 | some c=>if c.kind=k then (j7 c.count).map (c.first+ ·) else []
 | none=> []
theorem Hy {cs:List cX} {x:Nat} {c:cX} (h:dW cs x=some c):c∈cs∧c.flag=x:=⟨List.mem_of_find?_eq_some h,by simpa using List.find?_some h⟩
theorem S4:∀ {cs:List cX},(cs.map (·.flag)).Nodup→∀ c∈cs,dW cs c.flag=some c:=by
 intro cs
 induction cs with
 | nil=>intro _ c h; cases h
 | cons d cs q=>
   intro h c a
   rw [uf,List.nodup_cons] at h
   unfold dW
   rw [List.find?_cons]
   rcases gu.1 a with rfl | a
   · simp
   · have i:¬d.flag=c.flag:=fun h2=>h.1<|o4.2 ⟨c,a,h2.symm⟩
     rw [decide_eq_false i]
     exact q h.2 c a
theorem yy {F:aR} (a:pk F) {k f i:Nat} :i∈gE F k f↔i < F.rules.length∧(F.rules.getD i eY).kind=k∧(F.rules.getD i eY).flag=f:=by
 unfold gE
 constructor
 · intro h
   split at h
   · rename_i c q
     split at h
     · rename_i hk
       obtain ⟨j,I,rfl⟩:=o4.1 h
       rw [ug] at I
       have h1:=Hy q
       obtain ⟨h2,h3⟩:=a.uF c h1.1
       obtain ⟨r,h4,h5,A⟩:=h3 (c.first+j) ab ab
       refine ⟨ab,?_⟩
       rw [cR,h4]
       exact ⟨A.trans hk,h5.trans h1.2⟩
     · cases h
   · cases h
 · rintro ⟨h1,h2,h3⟩
   have h4:F.rules[i]? =some (F.rules.getD i eY):=by rw [cR,cC h1]; rfl
   obtain ⟨c,q,h5,A,E,G⟩:=a.part i _ h4
   have C:=S4 a.uniq c q
   rw [← E,h3] at C
   rw [C]
   simp only
   rw [if_pos (G.symm.trans h2)]
   exact o4.2 ⟨i - c.first,ug.2 ab,ab⟩
theorem Q4 (F:aR) (k f:Nat):(gE F k f).Nodup:=by
 unfold gE
 split
 · split
   · rw [List.Nodup,Nr]
     exact ZN (fun h=>by omega) Nq
   · exact .nil
 · exact .nil
theorem JE {F:aR} (q:pk F) {k:Nat} :∀ {fs:List Nat},fs.Pairwise (· < ·)→(fs.flatMap<|gE F k).Nodup∧∀ i,i∈fs.flatMap (gE F k)↔i∈aU F fs k:=by
 intro fs h
 refine ⟨?_,fun i=> ?_⟩
 · induction fs with
   | nil=>exact .nil
   | cons f fs J=>
     rw [List.pairwise_cons] at h
     rw [q7,Ey]
     refine ⟨Q4 F k f,J h.2,fun a C b A E=> ?_⟩
     subst E
     obtain ⟨g,I,A⟩:=zJ.1 A
     have h1:=(yy q).1 C
     have h2:=(yy q).1 A
     have :=h.1 g I
     omega
 · rw [zJ,rM]
   constructor
   · rintro ⟨f,G,hi⟩
     have h1:=(yy q).1 hi
     exact ⟨h1.1,h1.2.1,h1.2.2 ▸ G⟩
   · rintro ⟨h1,h2,h3⟩
     exact ⟨_,h3,(yy q).2 ⟨h1,h2,aa⟩⟩
theorem X2 {F:aR} (A:pk F) {fs:List Nat} (h:fs.Pairwise (· < ·)) (k:Nat):((fs.flatMap<|gE F k).map fun i:Nat=>(i:Int)).mergeSort (fun x y=>decide (x≤y))=(aU F fs k).map fun i:Nat=>(i:Int):=by
 obtain ⟨h1,h2⟩:=JE A (k:=k) h
 have hn:=JG F fs k
 have hp:=(List.mergeSort_perm ((fs.flatMap<|gE F k).map fun i:Nat=>(i:Int)) fun x y=>decide (x≤y)).trans<|((List.perm_ext_iff_of_nodup h1<|hn.imp fun h=>by omega).2 h2).map _
 refine List.Perm.eq_of_pairwise (le:=fun x y:Int=>decide (x≤y)=true) ?_ (List.pairwise_mergeSort ?_ ?_ _) ?_ hp
 · intro a b _ _ h q; have :=of_decide_eq_true h; have :=of_decide_eq_true q; omega
 · intro a b c h q; have :=of_decide_eq_true h; have :=of_decide_eq_true q; exact decide_eq_true ab
 · intro a b; simp only [Bool.or_eq_true,decide_eq_true_eq]; omega
 · rw [Nr]; exact hn.imp fun h=>decide_eq_true ab
def dJ (l:List bV):Nat:=(l.map fun d=>d.jx.length).sum
theorem Ai (a b:List bV):dJ (a++b)=dJ a+dJ b:=by unfold dJ; rw [iu,List.sum_append]
theorem OI (d:bV):dJ [d]=d.jx.length:=by simp [dJ]
def kE (most limit:Int) (a:List bV):Bool:=decide (most≤(a.length:Int)∨limit < (dJ a:Nat))
def qI (most limit:Int) (a:List bV) (d:bV):List bV:=if kE most limit a=true then a else a++ [d]
def fy (most limit:Int) (a L:List bV):List bV:=L.foldl (qI most limit) a
theorem tk (most limit:Int) (a L M:List bV):fy most limit a (L++M)=fy most limit (fy most limit a L) M:=List.foldl_append
theorem Cr (most limit:Int) (a:List bV):fy most limit a []=a:=rfl
theorem yq {most limit:Int} {a:List bV} (h:kE most limit a=true):∀ L,fy most limit a L=a:=by
 intro L
 induction L with
 | nil=>rfl
 | cons d L i=>rw [fy,sj,qI,if_pos h]; exact i
theorem U5 {most limit:Int} :∀ (L a:List bV),∃ n,fy most limit a L=a++L.take n:=by
 intro L
 induction L with
 | nil=>intro a; exact ⟨0,by simp [Cr]⟩
 | cons d L i=>
   intro a
   by_cases h:kE most limit a=true
   · exact ⟨0,by rw [yq h]; simp⟩
   · obtain ⟨n,hn⟩:=i<|a++ [d]
     refine ⟨n+1,?_⟩
     rw [fy,sj,qI,if_neg h]
     rw [fy] at hn
     rw [hn]; simp
theorem Oj {r:c7} {w v:Tx} (h:dA r w=some v):r.strip.length < w.length∧v=(if r.kind=2 then w.take (w.length - r.strip.length)++r.add else r.add++w.drop r.strip.length):=by
 unfold dA at h
 split at h
 · rename_i a
   unfold iF at a
   rw [gT,decide_eq_true_eq] at a
   cases h
   exact ⟨a.1.2,aa⟩
 · cases h
theorem qg {r:c7} {w v:Tx} (a:r.add.length≤32) (h:dA r w=some v):1≤v.length∧v.length≤w.length+32:=by
 obtain ⟨h1,rfl⟩:=Oj h
 split
 · rw [bL,dR]; omega
 · rw [bL,fT]; omega
theorem Dj {F:aR} (a:∀ q∈F.rules,jQ q) (i:Nat):jQ (F.rules.getD i eY):=by
 rw [cR]
 cases h:F.rules[i]? with
 | none=>exact ⟨jP _,jP _,jP _⟩
 | some q=>exact a q<|iN h
theorem AU {F:aR} (a:∀ q∈F.rules,jQ q) {xs:List bD} {e:Nat} {word:Tx} {f s:Int} (h1:1≤word.length):∀ d∈eC F xs e word f s,1≤d.jx.length∧d.jx.length≤word.length+32∧d.sV=e∧d.fst=f∧d.snd=s:=by
 intro d hd
 unfold eC at hd
 rcases jD.1 hd with hd | hd
 · unfold kA at hd
   split at hd
   · obtain rfl :=j5.1 hd
     exact ⟨h1,Nat.le_add_right _ _,aa,aa,aa⟩
   · cases hd
 · obtain ⟨p,_,hp⟩:=List.mem_filterMap.1 hd
   unfold ju at hp
   split at hp
   · obtain ⟨v,i,rfl⟩:=pc.1 hp
     have :=qg (Dj a p).2.1 i
     exact ⟨this.1,this.2,aa,aa,aa⟩
   · cases hp
theorem Sc {F:aR} (a:∀ q∈F.rules,jQ q) {xs:List bD} {e:Nat} (h1:1≤(xs.getD e ([],[])).1.length):∀ d∈jV F xs e,1≤d.jx.length∧d.jx.length≤(xs.getD e ([],[])).1.length +96∧d.sV=e:=by
 intro d hd
 unfold jV at hd
 rcases jD.1 hd with hd | hd
 · have :=AU a h1 d hd; exact ⟨this.1,ab,this.2.2.1⟩
 · obtain ⟨s,_,hd⟩:=zJ.1 hd
   unfold gd at hd
   split at hd
   · cases hd
   · rename_i w hw
     have i:=qg (Dj a s).2.1 hw
     rcases jD.1 hd with hd | hd
     · have :=AU a i.1 d hd; exact ⟨this.1,ab,this.2.2.1⟩
     · obtain ⟨z,_,hd⟩:=zJ.1 hd
       unfold jc at hd
       split at hd
       · cases hd
       · rename_i v C
         have A:=qg (Dj a z).2.1 C
         have :=AU a A.1 d hd; exact ⟨this.1,ab,this.2.2.1⟩
end Go.Hb
section
namespace Go.Hb
structure Gw (B:Nat) (fp:Nat→Prop) (w:World) (fp':Nat→Prop) (w':World):Prop where
 sub:∀ k,fp' k→fp k∨w.heap.size≤k
 cx:∀ (k:Nat) (cs:Array Value) (e:Nat) (z:Nat×Nat),B≤k→¬fp k→w.heap[k]? =some (.cells cs e z)→w'.heap[k]? =some (.cells cs e z)
 size:w.heap.size≤w'.heap.size
section
variable {B B':Nat} {fp fp' fp'':Nat→Prop} {w w' w'':World}
theorem Gw.trans (h:Gw B fp w fp' w') (a:Gw B fp' w' fp'' w''):Gw B fp w fp'' w'':=
 ⟨fun k hk=>(a.sub k hk).elim (h.sub k) (fun h2=> .inr<|gk h.size h2),
  fun k cs e z i hn hk=>a.cx k cs e z i (fun h2=>(h.sub k h2).elim hn fun h3=>by have :=(cU.1 hk).1; omega) (h.cx k cs e z i hn hk),gk h.size a.size⟩
theorem Gw.mono (h:Gw B fp w fp' w') (a:B≤B'):Gw B' fp w fp' w':=⟨h.sub,fun k cs e z hk=>h.cx k cs e z (gk a hk),h.size⟩
theorem Gw.md {G:Nat→Prop} (hm:Md G w w') (a:∀ k,G k→fp k∨k < B) (hs:∀ k,fp' k→fp k∨w.heap.size≤k):Gw B fp w fp' w':=
 ⟨hs,fun k cs e z i hn hk=>by rw [hm.cx k (cU.1 hk).1 (fun h=>(a k h).elim hn fun h2=>by omega)]; exact hk,hm.size⟩
theorem Gw.wk (hm:Wk w w'):Gw B fp w fp w':=Gw.md hm (fun _ h=>h.elim) fun _ h=> .inl h
theorem Gw.own {e size n:Nat} {v:Value} {xs:List Value} (h:Gw B fp w fp' w') (a:w.ownsRow B e size v n xs) (q:∀ k,v.ownBlock=some k→¬fp k):w'.ownsRow B e size v n xs∧∀ k,v.ownBlock=some k→¬fp' k:=by
 refine ⟨⟨a.1,?_⟩,fun k hk h2=>(h.sub k h2).elim (q k hk) fun h3=>by have :=(dM a hk).2; omega⟩
 rcases a.2 with h1 | ⟨g,cap,cur,A,i,C,h1⟩
 · exact .inl h1
 · exact .inr ⟨g,cap,cur,A,i,h.cx g cur e (0,0) i (q g<|by rw [A]; rfl) C,h1⟩
theorem Gw.aH {k e:Nat} {cs:Array Value} {z:Nat×Nat} (h:Gw B fp w fp' w') (hk:w.heap[k]? =some (.cells cs e z)) (i:B≤k) (a:¬fp k):w'.heap[k]? =some (.cells cs e z)∧¬fp' k:=
 ⟨h.cx k cs e z i a hk,fun h2=>(h.sub k h2).elim a fun h3=>by have :=(cU.1 hk).1; omega⟩
end
def zQ {α:Type} (B:Nat) (a:List α→(Nat→Prop)→World→Prop):Prop := ∀ pre fp W W' (F:Nat→Prop),a pre fp W→Md F W W'→(∀ k,F k→B≤k∧∀ cur e z,W.heap[k]? =some (.cells cur e z)→¬fp k)→a pre fp W'
section
variable {F fp:Nat→Prop} {W W':World} {B:Nat}
theorem gS {b e:Nat} {cs:Array Value} {z:Nat×Nat} (h:W.heap[b]? =some (.cells cs e z)) (hm:Md F W W') (i:b < B) (a:∀ k,F k→B≤k∧∀ cur e z,W.heap[k]? =some (.cells cur e z)→¬fp k):W'.heap[b]? =some (.cells cs e z):=by
 rw [hm.cx b (cU.1 h).1 (fun hk=>by have :=(a b hk).1; omega)]; exact h
theorem Lq {B' e size n:Nat} {v:Value} {xs:List Value} (h:W.ownsRow B' e size v n xs) (hm:Md F W W') (A:∀ k,v.ownBlock=some k→fp k) (a:∀ k,F k→B≤k∧∀ cur e z,W.heap[k]? =some (.cells cur e z)→¬fp k):W'.ownsRow B' e size v n xs:=
 dq h hm fun k hk i=>by
  rcases h.2 with ⟨rfl,_⟩ | ⟨g,cap,C,rfl,_,q,_⟩
  · simp [jm] at hk
  · simp only [jm,fU] at hk; subst hk; exact (a _ i).2 _ _ _ q<|A _ rfl
theorem Lr {w:World} (h:Wk w W) (hm:Md F W W') (q:w.heap.size≤B) (a:∀ k,F k→B≤k∧∀ cur e z,W.heap[k]? =some (.cells cur e z)→¬fp k):Wk w W':=Md.trans' h hm fun k hk i=>by have :=(a k i).1; omega
end
def NU {α:Type} (B:Nat) (a:Bool→List α→(Nat→Prop)→World→Prop):Prop := ∀ b pre fp W W' (F:Nat→Prop),a b pre fp W→Md F W W'→(∀ k,F k→B≤k∧¬fp k∧∃ cs e z,W.heap[k]? =some (.cells cs e z))→a b pre fp W'
structure Yc {α:Type} (P:Program) (l B:Nat) (encs:α→Array Value) (xs:List α) (Cap:World→Prop) (J:Bool→List α→(Nat→Prop)→World→Prop):Prop where
 cap:∀ b pre fp W,J b pre fp W→Cap W
 lt:∀ b pre fp W,J b pre fp W→∀ k,fp k→k < W.heap.size
 st:NU B J
 yl:∀ pre x rest fp W1,xs=pre++x::rest→J true pre fp W1→YieldAt jd 0 P l (encs x) W1 fun e W'=> ∃ b,e= .returned (.bool b)∧∃ fp',J b (pre++ [x]) fp' W'∧Gw B fp W1 fp' W'
theorem Yc.wk {α:Type} {P:Program} {l B:Nat} {q:α→Array Value} {xs:List α} {i:World→Prop} {a:Bool→List α→(Nat→Prop)→World→Prop} (h:Yc P l B q xs i a) {b:Bool} {pre:List α} {fp:Nat→Prop} {W W':World} (A:a b pre fp W) (hm:Wk W W'):a b pre fp W':=
 h.st _ _ _ _ _ _ A hm fun _ hk=>hk.elim
theorem Gw.Jt {B:Nat} {fp fp':Nat→Prop} {w a w':World} (h:Gw B fp w fp' a) {G:Nat→Prop} (hm:Md G a w') (q:∀ k,G k→w.heap.size≤k):Gw B fp w fp' w':=
 ⟨h.sub,fun k cs e z i hn hk=>by
  have h1:=(cU.1 hk).1
  rw [hm.cx k (Nat.lt_of_lt_of_le h1 h.size) (fun h2=>by have :=q k h2; omega)]; exact h.cx k cs e z i hn hk,gk h.size hm.size⟩
theorem Yc.vu {α:Type} {P:Program} {l B:Nat} {C:α→Array Value} {A:List α} {i:World→Prop} {a:Bool→List α→(Nat→Prop)→World→Prop} (h:Yc P l B C A i a) {b:Bool} {pre:List α} {fp:Nat→Prop} {W W':World} (G:a b pre fp W) {k e:Nat} {cs:Array Value} {z:Nat×Nat} (hk:W.heap[k]? =some (.cells cs e z)) (E:B≤k) (I:¬fp k) (hm:Md (fun q=>q=k) W W'):a b pre fp W':=
 h.st _ _ _ _ _ _ G hm fun q J=>by subst J; exact ⟨E,I,_,_,_,hk⟩
theorem Yc.L0 {α:Type} {P:Program} {l B:Nat} {A:α→Array Value} {xs:List α} {a i:World→Prop} {q:Bool→List α→(Nat→Prop)→World→Prop} (h:Yc P l B A xs a q) (E:∀ W,a W→i W):Yc P l B A xs i q:=
 ⟨fun b pre fp W C=>E W (h.cap b pre fp W C),h.lt,h.st,h.yl⟩
def wV {α:Type} (P:Program) (A:Nat) (C:Array Value) (q:α→Array Value) (xs:List α) (i:World→Prop):Prop :=
 ∀ (l:Nat) (a:Bool→List α→(Nat→Prop)→World→Prop) (W:World),a true [] (fun _=>False) W→Yc P l W.heap.size q xs i a→
   Calls P A (#[.func (.yield l) #[] #[]]++C) W fun e W'=>(∃ v,e= .returned v)∧∃ b pre fp,a b pre fp W'∧pre <+:xs∧(b=true→pre=xs)
def Xm (id B:Nat) (fp:Nat→Prop) (W:World) (R:(Nat→Prop)→World→Prop) (X:Bool→(Nat→Prop)→World→Prop):Exit→(Nat→Value)→World→Prop
 | .normal,_,w=>fO W w∧∃ fp',Gw B fp W fp' w∧R fp' w
 | .exit i,_,w=>i=id∧fO W w∧∃ fp',Gw B fp W fp' w∧X false fp' w
 | .ret,_,w=>fO W w∧∃ fp',Gw B fp W fp' w∧X true fp' w
 | _,_,_=>False
def Cq (id:Nat):Bool→Code
 | true => .ret
 | false => .exit id
theorem Ad {α:Type} {f:α→List Value} {e:Nat} (x:α) (b:Nat) (W W':World) (F:Nat→Prop) (h:W.heap[b]? =some (.cells (f x).toArray e (0,0))) (hm:Md F W W') (a:∀ k,F k→∀ cur e z,W.heap[k]?≠some (.cells cur e z)):W'.heap[b]? =some (.cells (f x).toArray e (0,0)):=by
 rw [hm.cx b (cU.1 h).1 (fun hk=>a b hk _ _ _ h)]; exact h
def JX {α:Type} (a:List α→(Nat→Prop)→World→Prop) (X:Bool→List α→(Nat→Prop)→World→Prop) (S:World→Prop) (T:Bool→World→Prop):Bool→List α→(Nat→Prop)→World→Prop
 | true,pre,fp,W=>a pre fp W∧S W
 | false,pre,fp,W=> ∃ r,X r pre fp W∧T r W
theorem Df {α:Type} {P:Program} {id n:Nat} {Y:List Deferred} {g:Operand} {ps:Array Tmp} {ar body:Code} {Z:List Nat} {σ:Nat→Value} {w:World} {B:Exit→Act→World→Prop} {aj:Nat} {ak:Array Value}
 (ag:α→Array Value) (xs:List α) (aw:World→Prop) (q:List α→(Nat→Prop)→World→Prop) (X:Bool→List α→(Nat→Prop)→World→Prop) (aU:ev ⟨n,Y,Z,none⟩ σ g= .func (.func aj) #[] ak) (aR:bl P aj) (a2:∀ x,(ag x).size=ps.size)
 (aV:wV P aj ak ag xs aw) (aL:q [] (fun _=>False) w) (aA:∀ pre fp W,q pre fp W→aw W∧∀ k,fp k→k < W.heap.size) (aB:∀ r pre fp W,X r pre fp W→aw W∧∀ k,fp k→k < W.heap.size) (ac:zQ w.heap.size q) (an:∀ r,zQ w.heap.size (X r)) (A:α→Nat→World→Prop) (aJ:∀ x b W W' (F:Nat→Prop),A x b W→Md F W W'→(∀ k,F k→∀ cur e z,W.heap[k]?≠some (.cells cur e z))→A x b W') (aG:α→Nat→Nat→Value)
 (aP:∀ (l:Nat) (x:α) (W:World) (K:(Nat→Value)→World→Prop),(∀ b W',Wk W W'→A x b W'→K (aG x b) W')→dO P ⟨n,[],[],some l⟩ ar (lS K fun _ _ _=>False) ((ps.toList.zip (ag x).toList).foldl (fun s p=>dy s p.1 p.2) σ) W)
 (aQ:∀ (l:Nat) (pre:List α) (x:α) (rest:List α) (fp:Nat→Prop) (b:Nat) (W:World),xs=pre++x::rest→q pre fp W→A x b W→dO P ⟨n,[],[],some l⟩ body (Xm id w.heap.size fp W (q<|pre++ [x]) fun r=>X r<|pre++ [x]) (aG x b) W)
 (hd:∀ (D:Nat) (W:World),w.heap.size≤D→(∃ fp,q xs fp W)→W.heap[D]? =some (.deferred<|some [])→qb ⟨n,{target:= .collected D,args:= #[]} ::Y,Z,none⟩ B .normal σ W)
 (a5:∀ (D:Nat) (W:World) (pre:List α),w.heap.size≤D→pre <+:xs→(∃ fp,X false pre fp W)→W.heap[D]? =some (.deferred<|some [])→qb ⟨n,{target:= .collected D,args:= #[]} ::Y,Z,none⟩ B .normal σ W)
 (a6:∀ (D:Nat) (W:World) (pre:List α),w.heap.size≤D→pre <+:xs→(∃ fp,X true pre fp W)→W.heap[D]? =some (.deferred<|some [])→qb ⟨n,{target:= .collected D,args:= #[]} ::Y,Z,none⟩ B .ret σ W):
 oa P ⟨n,Y,Z,none⟩ (.block id<|.rangeFunc g ps ar body) B σ w:=by
 refine wpIn_block<|wpIn_rangeFunc ?_
 intro fn _
 obtain ⟨rc,O⟩:∃ rc:LoopState→Option Code→Loop,rc=fun st a7=> {state:=st,pending:=a7,fn,tmps:=(act ⟨n,Y,Z,none⟩ σ).tmps,params:=ps,assign:=ar,body,defers:=w.heap.size} :=⟨_,rfl⟩
 obtain ⟨G,am⟩:∃ G,(w.alloc<|.deferred<|some []).alloc (.loop<|rc .ready none)=G:=⟨_,rfl⟩
 have aO:G.heap[w.heap.size+1]? =some (.loop<|rc .ready none):=by
  rw [← am]; have :=zy (w.alloc<|.deferred<|some []) (.loop<|rc .ready none); rwa [M2] at this
 have aN:G.heap[w.heap.size]? =some (.deferred<|some []):=by
  rw [← am]; exact (Below.heap_alloc _ _ _<|by simp).trans<|zy w _
 have a9:G.heap.size=w.heap.size+2:=by rw [← am]; simp
 have hn:∀ (W:World) (o:Obj),Wk W (W.alloc o):=fun W o=>(CN W o).md
 have aM:q [] (fun _=>False) G:=by rw [← am]; exact ac _ _ _ _ _ (ac _ _ _ _ _ aL (hn _ _) fun _ h=>h.elim) (hn _ _) fun _ h=>h.elim
 have aS:(act ⟨n,Y,Z,none⟩ σ).eval g= .func (.func aj) #[] ak:=by rw [ib]; exact aU
 refine ⟨w.heap.size+1,[{target:= .collected w.heap.size,args:= #[]}],G,{target:= .fn (.func aj) ak,args:= #[.func (.yield<|w.heap.size+1) #[] #[]]},G,aj,
  #[.func (.yield<|w.heap.size+1) #[] #[]]++ak,G,?_,?_,fun _ _=>trivial,?_,fun aI=>(by cases aI),?_⟩
 · rw [← am,O]; exact run_enterLoop_outer _ _ _ _ _
 · simp only [resolve,aS]
   simp [go_sem]
 · have :=aR (#[.func (.yield<|w.heap.size+1) #[] #[]]++ak) G
   simp [invoke,go_sem,this]
 ·
  have ai:∀ (q:List α→(Nat→Prop)→World→Prop),zQ w.heap.size q→∀ (pre:List α) (fp:Nat→Prop) (W:World) (o al:Obj),q pre fp W→W.heap[w.heap.size+1]? =some o→(∀ cur e z,o≠.cells cur e z)→q pre fp (W.putObj (w.heap.size+1) al):=fun q ac pre fp W o al h1 h2 h3=>
   ac _ _ _ _ _ h1 (lz W _ al) fun k hk=>⟨ab,fun cur e z h4=>by subst hk; rw [h2] at h4; exact absurd (q9 h4)<|h3 _ _ _⟩
  have aC:∀ (fp:Nat→Prop) (W:World) (o al:Obj),W.heap[w.heap.size+1]? =some o→(∀ cur e z,o≠.cells cur e z)→Gw w.heap.size fp W fp (W.putObj (w.heap.size+1) al):=fun fp W o al h2 h3=>
   ⟨fun _ h=> .inl h,fun k cs e z _ _ hk=>by
    rw [om (fun h=>by subst h; rw [h2] at hk; exact h3 _ _ _<|q9 hk)]; exact hk,by simp [M1]⟩
  have ay:∀ {F:Nat→Prop} {A C:World},Md F A C→∀ (k:Nat) (o:Obj),A.heap[k]? =some o→¬F k→C.heap[k]? =some o:=fun hm k o ap aT=>by
   rw [hm.cx k (cU.1 ap).1 aT]; exact ap
  refine callsIn_wide.2 (lF (aV (w.heap.size+1)
   (JX q X (fun W=>W.heap[w.heap.size+1]? =some (.loop<|rc .ready none)∧W.heap[w.heap.size]? =some (.deferred<|some [])) fun r W=>W.heap[w.heap.size+1]? =some (.loop<|rc .done<|some<|Cq id r)∧W.heap[w.heap.size]? =some (.deferred<|some []))
   G ⟨aM,aO,aN⟩ ⟨fun b pre fp W h=>match b,h with
    | true,h=>(aA pre fp W h.1).1
    | false,⟨r,h,_⟩=>(aB r pre fp W h).1,fun b pre fp W h=>match b,h with
    | true,h=>(aA pre fp W h.1).2
    | false,⟨r,h,_⟩=>(aB r pre fp W h).2,?_,?_⟩) ?_)
  · intro b pre fp A C F h hm ax
    have az:∀ k,F k→w.heap.size≤k∧∀ cur e z,A.heap[k]? =some (.cells cur e z)→¬fp k:=fun k hk=>⟨by have :=(ax k hk).1; omega,fun _ _ _ _=>(ax k hk).2.1⟩
    have J:∀ (k:Nat) (o:Obj),A.heap[k]? =some o→(∀ cur e z,o≠.cells cur e z)→C.heap[k]? =some o:=fun k o ap a0=>ay hm k o ap fun hk=>by
     obtain ⟨cs,e,z,h5⟩:=(ax k hk).2.2; rw [ap] at h5; exact a0 _ _ _<|q9 h5
    cases b with
    | true =>exact ⟨ac _ _ _ _ _ h.1 hm az,J _ _ h.2.1 (fun _ _ _ h=>by cases h),J _ _ h.2.2 fun _ _ _ h=>by cases h⟩
    | false =>
      obtain ⟨r,h1,h2,h3⟩:=h
      exact ⟨r,an r _ _ _ _ _ h1 hm az,J _ _ h2 (fun _ _ _ h=>by cases h),J _ _ h3 fun _ _ _ h=>by cases h⟩
  · rintro pre x rest fp W a4 ⟨hi,E,hk⟩
    have aE:=run_yield (P:=P) (args:=ag x) E<|by rw [O]; exact a2 x
    rw [O] at aE
    refine ⟨fn,_,ar,body,aE,roundIn_of_wpIn (F:=jd) trivial ?_⟩
    have a3:((ps.zip<|ag x).foldl (fun tmps (p:Tmp×Value)=>tmps.setIfInBounds p.1 p.2) (act ⟨n,Y,Z,none⟩ σ).tmps)=(act ⟨n,[],[],some<|w.heap.size+1⟩<|(ps.toList.zip (ag x).toList).foldl (fun s p=>dy s p.1 p.2) σ).tmps:=by
     rw [← Mn,Mr]
     exact EH ⟨n,[],[],some<|w.heap.size+1⟩ _ σ
    have h1:=aP (w.heap.size+1) x W (fun U W'=> ∃ aF,(MK<|w.heap.size+1).run P W'= .ok () aF∧
     body.wpIn (jd.inRound<|w.heap.size+1) 0 P (roundPost P (w.heap.size+1) fun e W'=> ∃ b,e= .returned (.bool b)∧∃ fp',JX q X (fun W=>W.heap[w.heap.size+1]? =some (.loop<|rc .ready none)∧W.heap[w.heap.size]? =some (.deferred<|some [])) (fun r W=>W.heap[w.heap.size+1]? =some (.loop<|rc .done<|some<|Cq id r)∧W.heap[w.heap.size]? =some (.deferred<|some [])) b (pre++ [x]) fp' W'∧Gw G.heap.size fp W fp' W') (act ⟨n,[],[],some<|w.heap.size+1⟩ U) aF) ?_
    · unfold dO at h1
      have aH:({tmps:=(ps.zip<|ag x).foldl (fun tmps (p:Tmp×Value)=>tmps.setIfInBounds p.1 p.2) (act ⟨n,Y,Z,none⟩ σ).tmps,defers:= []} :Act)=act ⟨n,[],[],some<|w.heap.size+1⟩ ((ps.toList.zip (ag x).toList).foldl (fun s p=>dy s p.1 p.2) σ):=by rw [a3]; rfl
      rw [aH]
      refine wpIn_mono h1 ?_
      intro e a w' M
      cases e with
      | normal=>obtain ⟨U,rfl,ae⟩:=M; exact ae
      | panic c=>obtain ⟨U,rfl,ae⟩:=M; exact ae U fun _ _=>rfl
      | outgrown=>exact M.elim
      | _=>obtain ⟨U,rfl,ae⟩:=M; exact ae
    intro b V au aK
    have hi:=ac _ _ _ _ _ hi au fun _ h=>h.elim
    have E:=ay au _ _ E fun h=>h
    have hk:=ay au _ _ hk fun h=>h
    have aZ:w.heap.size+1 < V.heap.size:=(cU.1 E).1
    refine ⟨_,run_beginRound E (by rw [O]),?_⟩
    have aY:(V.putObj (w.heap.size+1)<|.loop {rc .ready none with state:= .busy}).heap[w.heap.size+1]? =some (.loop {rc .ready none with state:= .busy}):=zz aZ
    have aW:(V.putObj (w.heap.size+1)<|.loop {rc .ready none with state:= .busy}).heap[w.heap.size]? =some (.deferred<|some []):=(om ab).trans hk
    have a1:=aC fp V _ (.loop {rc .ready none with state:= .busy}) E fun _ _ _ h=>by cases h
    have h2:=aQ (w.heap.size+1) pre x rest fp b _ a4 (ai q ac _ _ _ _ (.loop {rc .ready none with state:= .busy}) hi E fun _ _ _ h=>by cases h)<|aJ _ _ _ _ _ aK (lz V (w.heap.size+1) _) fun k hk cur e z h4=>by subst hk; rw [E] at h4; cases h4
    unfold dO at h2
    refine wpIn_mono h2 ?_
    have fin:∀ (j:Option Code) (fp':Nat→Prop) (I:World),fO (V.putObj (w.heap.size+1)<|.loop {rc .ready none with state:= .busy}) I→Gw w.heap.size fp (V.putObj (w.heap.size+1)<|.loop {rc .ready none with state:= .busy}) fp' I→
     (Instr.endRound (w.heap.size+1) j).run P I= .ok (.bool j.isNone) (I.putObj (w.heap.size+1)<|.loop<|rc (if j.isNone then .ready else .done) j)∧
     I.heap[w.heap.size+1]? =some (.loop {rc .ready none with state:= .busy})∧
     (I.putObj (w.heap.size+1)<|.loop<|rc (if j.isNone then .ready else .done) j).heap[w.heap.size+1]? =some (.loop<|rc (if j.isNone then .ready else .done) j)∧
     (I.putObj (w.heap.size+1)<|.loop<|rc (if j.isNone then .ready else .done) j).heap[w.heap.size]? =some (.deferred<|some [])∧
     Gw G.heap.size fp W fp' (I.putObj (w.heap.size+1)<|.loop<|rc (if j.isNone then .ready else .done) j):=fun j fp' I J ah=>by
     have av:=J _ _ aY fun _ _ _ h=>by cases h
     have aX:=J _ _ aW fun _ _ _ h=>by cases h
     have aD:=run_endRound (P:=P) j av
     refine ⟨?_,av,zz (cU.1 av).1,(om ab).trans aX,((((Gw.wk au).trans a1).trans ah).trans<|aC fp' _ _ _ av fun _ _ _ h=>by cases h).mono ab⟩
     rw [O] at aD ⊢
     exact aD
    intro e a I M
    cases e with
    | normal=>
      obtain ⟨U,rfl,J,fp',ah,ao⟩:=M
      obtain ⟨f1,f2,f3,f4,f5⟩:=fin none fp' I J ah
      exact ⟨_,_,f1,true,aa,fp',⟨ai q ac _ _ _ _ _ ao f2 (fun _ _ _ h=>by cases h),f3,f4⟩,f5⟩
    | ret=>
      obtain ⟨U,rfl,J,fp',ah,ao⟩:=M
      obtain ⟨f1,f2,f3,f4,f5⟩:=fin (some .ret) fp' I J ah
      exact ⟨_,_,f1,false,aa,fp',⟨true,ai (X true) (an true) _ _ _ _ _ ao f2 (fun _ _ _ h=>by cases h),f3,f4⟩,f5⟩
    | exit i=>
      obtain ⟨U,rfl,rfl,J,fp',ah,ao⟩:=M
      obtain ⟨f1,f2,f3,f4,f5⟩:=fin (some<|.exit i) fp' I J ah
      exact ⟨_,_,f1,false,aa,fp',⟨false,ai (X false) (an false) _ _ _ _ _ ao f2 (fun _ _ _ h=>by cases h),f3,f4⟩,f5⟩
    | panic c=>obtain ⟨U,rfl,ae⟩:=M; exact (ae U fun _ _=>rfl).elim
    | outgrown=>exact M.elim
    | goto t=>obtain ⟨U,rfl,ae⟩:=M; exact ae.elim
  · rintro e a8 ⟨⟨v,rfl⟩,b,pre,fp,hj,hpre,hb1⟩
    cases b with
    | true =>
      obtain ⟨hi,E,hk⟩:=hj
      obtain rfl :=hb1 rfl
      have aq:=run_endLoop (P:=P) E<|by rw [O]; simp
      rw [O] at aq
      refine ⟨none,_,aq,?_⟩
      rw [O] at E
      exact hd w.heap.size _ (cA _) ⟨fp,ai q ac _ _ _ _ _ hi E fun _ _ _ h=>by cases h⟩<|(om ab).trans hk
    | false =>
      obtain ⟨r,hi,E,hk⟩:=hj
      have aq:=run_endLoop (P:=P) E<|by rw [O]; simp
      rw [O] at aq
      refine ⟨some (Cq id r),_,aq,?_⟩
      rw [O] at E
      cases r with
      | true =>
        refine wpIn_ret ?_
        exact a6 w.heap.size _ pre (cA _) hpre ⟨fp,ai (X true) (an true) _ _ _ _ _ hi E fun _ _ _ h=>by cases h⟩<|(om ab).trans hk
      | false =>
        refine wpIn_exit ?_
        unfold Exit.inBlock
        simp only [if_true]
        exact a5 w.heap.size _ pre (cA _) hpre ⟨fp,ai (X false) (an false) _ _ _ _ _ hi E fun _ _ _ h=>by cases h⟩<|(om ab).trans hk
section
variable {P:Program} {N:Fm} {ops:Array Oper} {Q:Exit→(Nat→Value)→World→Prop} {rest:List Oper} {σ:Nat→Value} {w:World} {d':Option Nat} {d:Nat} {op:Op} {ty:TypeId} {pos :String} {af:Array Edge} {v:Value}
end
section
variable {P:Program} {n:Nat} {F:List Nat} {σ:Nat→Value} {w:World} {fn:Func} {R:Value→World→Prop}
theorem Ht {r s q:ResultVar} {v u z:Value} (h:fn.results= #[r,s,q]) (h1:kO P ⟨n,[],F,none⟩ σ w r v) (h2:kO P ⟨n,[],F,none⟩ σ w s u) (h3:kO P ⟨n,[],F,none⟩ σ w q z) (a:R (.tuple #[v,u,z]) w):qb ⟨n,[],F,none⟩ (Bm P fn R) .ret σ w:=Cw (.inl rfl) (Dh h (kK h1) (kK h2)<|kK h3) a
theorem xP {D:Nat} {r s q:ResultVar} {v u z:Value} (h:fn.results= #[r,s,q]) (a:w.heap[D]? =some (.deferred<|some [])) (h1:kO P ⟨n,[{target:= .collected D,args:= #[]}],F,none⟩ σ (w.putObj D<|.deferred none) r v) (h2:kO P ⟨n,[{target:= .collected D,args:= #[]}],F,none⟩ σ (w.putObj D<|.deferred none) s u) (h3:kO P ⟨n,[{target:= .collected D,args:= #[]}],F,none⟩ σ (w.putObj D<|.deferred none) q z) (i:R (.tuple #[v,u,z]) (w.putObj D<|.deferred none)):
 qb ⟨n,[{target:= .collected D,args:= #[]}],F,none⟩ (Bm P fn R) .ret σ w:=
 ⟨MI,.inl ⟨_,_,rfl,run_takeDeferred a,⟨.tuple #[v,u,z],Dh h (kK h1) (kK h2) (kK h3),_,rfl,i⟩⟩⟩
theorem m6 {b off D:Nat} {o A:Obj} {v:Value} (a:Hb.aO w.heap b off =some v) (i:w.heap[D]? =some o) (hn:∀ cur e z,o≠.cells cur e z):Hb.aO (w.putObj D A).heap b off =some v:=by
 have q:b≠D:=fun h=>by
  subst h
  unfold Hb.aO at a
  rw [i] at a
  cases o with
  | cells c e z=>exact hn _ _ _ rfl
  | _=>cases a
 unfold Hb.aO at a ⊢
 rw [om q]; exact a
end
def Bu (P:Program) (s f:Nat):Option Nat:=
 match P.underlying s with
 | some (.struct fs)=>match fs[f]? with
   | some fd=>if dw P fd.type=some none then some fd.offset else none
   | none=>none
 | _=>none
theorem XE {P:Program} {t:Nat} (hu:dw P t=some none) (w:World):(isAgg t).run P w= .ok false w:=by
 unfold dw at hu
 cases hd:P.underlying t with
 | none=>rw [hd] at hu; cases hu
 | some d=>
   rw [hd] at hu
   cases d <;> first
    | (simp only [pc] at hu; obtain ⟨_,_,h⟩:=hu; cases h; done)
    | simp [isAgg,eB hd]
theorem SU {P:Program} {N:Fm} {σ:Nat→Value} {w:World} {dst:Option Nat} {ty:TypeId} {pos :String} {af:Array Edge} {g:Option (Nat×Bool)} {x:Operand} {s f n:Nat} {cs:Array Value} {v:Value} (a:Bu P s f=some n) (C:ev N σ x= .agg cs) (A:cs[n]? =some v):
 (execOp (ev N σ) ⟨dst,.field s x f,ty,pos,af,g⟩).run P w= .ok (.value v) w:=by
 unfold Bu at a
 split at a
 · rename_i fs hu
   split at a
   · rename_i fd q
     split at a
     · rename_i i
       cases a
       simp [execOp,ML,eB hu,q,C,asAgg,part,XE i,A]
     · cases a
   · cases a
 · cases a
section
variable {P:Program} {ops:Array Oper} {Q:Exit→Act→World→Prop} {S:World→Prop} {md:se}
theorem Mc {i:Nat} {o:Oper} {v:Value} {a:Act} (hi:ops[i]? =some o) (C:YieldsIf P ops S o v a) {K:Act→World→Prop} {w:World} (q:S w) (h:K (a.put o.dst v) w):wpOpIn jd 0 P ops Q i K a w:=by
 unfold wpOpIn
 simp only [hi]
 rcases C with ⟨hw,A⟩ | ⟨hw,rfl⟩
 · rw [if_pos hw]
   refine ⟨fun _ _=>trivial,?_⟩
   rw [show jd.round=none from rfl,wc,A w q]
   exact h
 · rw [if_neg (by rw [hw]; exact ee)]; exact ⟨fun _ _=>trivial,h⟩
theorem Zu {j:Nat} {i A:Oper} {v:Value} (I:ops[j]? =some A) (G:i.apart ops A=true)
 (J:∀ cs b,i.op≠.select cs b) (M:∀ cs b,A.op≠.select cs b)
 (C:∀ c a w,Q (.panic c) (a.put i.dst v) w→Q (.panic c) a w) {K:Act→World→Prop} {a:Act} {w:World}
 (q:YieldsIf P ops S i v a) (h:wpOpIn jd 0 P ops Q j K (a.put i.dst v) w):
 wpOpIn jd 0 P ops Q j (fun E w'=>YieldsIf P ops S i v E∧K (E.put i.dst v) w') a w:=by
 obtain ⟨h1,h2,h3⟩:=Oper.apart_spec G
 have cx:∀ (a:Act),YieldsIf P ops S i v a→∀ u,YieldsIf P ops S i v (a.put A.dst u):=fun a q u=>
  q.of_same (execOp_put i J a A.dst u h3) (wanted_put i a A.dst u h3)
 have O:∀ d,YieldsIf P ops S i v {a with defers:=d::a.defers} :=fun d=>q.of_same rfl rfl
 unfold wpOpIn at*
 simp only [I] at*
 rw [wanted_put A a i.dst v h1] at h
 split
 · rename_i hw
   simp only [hw,if_true] at h
   unfold Oper.wpIn at*
   refine ⟨fun _ _=>trivial,?_⟩
   have h:=h.2
   rw [show jd.round=none from rfl,wc,execOp_put A M a i.dst v h1] at h
   rw [show jd.round=none from rfl,wc]
   generalize (execOp a.eval A).run P w=r at*
   cases r with
   | ok x w'=>
     cases x <;> simp only [qX] at h ⊢
     case value u=>exact ⟨cx a q u,by rw [← r9 a v u h2]; exact h⟩
     case skip =>exact ⟨cx a q _,by rw [← r9 a v undef h2]; exact h⟩
     case defer d=>
      refine ⟨cx _ (O d) _,?_⟩
      rw [← r9 _ v undef h2,← Act.put_defers]
      exact h
     case enter f args=>
      refine ⟨h.1,D4 h.2 fun e w'' he=> ?_⟩
      cases e with
      | returned u=>exact ⟨cx a q u,by rw [← r9 a v u h2]; exact he⟩
      | panicked c=>exact C _ _ _ he
      | outgrown=>exact he
     case row row args=>exact ⟨h.1,Ej h.2 fun u w'' he=>⟨cx a q u,by rw [← r9 a v u h2]; exact he⟩⟩
     case round l f tmps assign body=>
      refine ⟨h.1,Eh h.2 fun e w'' he=> ?_⟩
      cases e with
      | returned u=>exact ⟨cx a q u,by rw [← r9 a v u h2]; exact he⟩
      | panicked c=>exact C _ _ _ he
      | outgrown=>exact he
   | halt x w'=>
     cases x <;> simp only [qX] at h ⊢
     case panic u=>exact C _ _ _ h
 · rename_i hw
   simp only [hw] at h
   exact ⟨fun _ _=>trivial,cx a q _,by rw [← r9 a v undef h2]; exact h.2⟩
def pZ (P:Program) (md:se) (ops:Array Oper) (Q:Exit→Act→World→Prop) (S:World→Prop):Nat→Array Bool→Act→World→Prop
 | 0,bc,a,w=>jl md ops bc= []∧Q .normal a w
 | fuel+1,bc,a,w=>
   (jl md ops bc= []→Q .normal a w)∧
   ∀ i∈jl md ops bc,wpOpIn jd 0 P ops Q i (fun q w'=>S w'∧pZ P md ops Q S fuel (bc.setIfInBounds i true) q w') a w
theorem L5:∀ (fuel:Nat) (bc:Array Bool) (a:Act) (w:World),pZ P md ops Q S fuel bc a w→wpAnyIn jd 0 P md ops Q fuel bc a w
 | 0,_,_,_,h=>h
 | fuel+1,_,_,_,h=>⟨h.1,fun i hi=>wpOpIn_mono (fun q w' A=>L5 fuel _ q w' A.2)<|h.2 i hi⟩
theorem Zo {i:Nat} {C:Oper} {v:Value} (hi:ops[i]? =some C) (aa:∀ (j:Nat) (o:Oper) cs b,ops[j]? =some o→o.op≠.select cs b)
 (ae:∀ c a w,Q (.panic c) (a.put C.dst v) w→Q (.panic c) a w):
 ∀ (fuel:Nat) (bc:Array Bool) (a:Act) (w:World),
   (∀ j E,ops[j]? =some E→j≠i→bc.getD j true =false→(∀ e∈E.after,j0 md e=true→e.on≠i)→C.apart ops E=true)→
   i∈jl md ops bc→YieldsIf P ops S C v a→S w→
   pZ P md ops Q S fuel (bc.setIfInBounds i true) (a.put C.dst v) w→pZ P md ops Q S (fuel+1) bc a w:=by
 intro fuel
 induction fuel with
 | zero=>
   intro bc a w _ A J G H
   refine ⟨fun h=>(by rw [h] at A; cases A),fun j I=> ?_⟩
   by_cases q:j=i
   · subst q; exact Mc hi J G ⟨G,H⟩
   · have :=ready_mono I q
     rw [H.1] at this
     cases this
 | succ fuel am=>
   intro bc a w V A J G H
   refine ⟨fun h=>(by rw [h] at A; cases A),fun j I=> ?_⟩
   by_cases q:j=i
   · subst q; exact Mc hi J G ⟨G,H⟩
   · have h1:=H.2 j<|ready_mono I q
     obtain ⟨Z,E,O,ag⟩:=mem_ready.1 I
     have al:∀ e∈E.after,j0 md e=true→e.on≠i:=fun e he ah heq=>by
      have h1:=ag e he ah
      have U:=(mem_ready.1 A).1
      rw [heq] at h1
      rcases Nat.lt_or_ge i bc.size with M | M
      · simp [M] at U h1; rw [U] at h1; cases h1
      · simp [Array.getElem?_eq_none M] at h1
     have h2:=Zu O (V j E O q Z al) (fun cs b=>aa i C cs b hi) (fun cs b=>aa j E cs b O) ae J h1
     have ai:∀ k ok,ops[k]? =some ok→k≠i→(bc.setIfInBounds j true).getD k true =false→
      (∀ e∈ok.after,j0 md e=true→e.on≠i)→C.apart ops ok=true :=fun k ok hk aj ab ak=>by
      refine V k ok hk aj ?_ ak
      by_cases Y:j=k
      · subst Y; exact Z
      · rw [getD_set_ne true Y] at ab; exact ab
     refine wpOpIn_mono (fun ac w' h3=>⟨h3.2.1,am (bc.setIfInBounds j true) ac w' ai (ready_mono A<|Ne.symm q) h3.1 h3.2.1 ?_⟩) h2
     rw [Array.setIfInBounds_comm _ _ q]
     exact h3.2.2
theorem DO {i:Nat} {q:Oper} {v:Value} {fuel:Nat} {bc:Array Bool} {a:Act} {w:World} (hi:ops[i]? =some q)
 (hs:Region.noSelect ops=true) (E:Region.free md ops bc i=true) (G:(jl md ops bc).contains i=true)
 (A:∀ c a w,Q (.panic c) (a.put q.dst v) w→Q (.panic c) a w) (I:YieldsIf P ops S q v a) (C:S w)
 (h:pZ P md ops Q S fuel (bc.setIfInBounds i true) (a.put q.dst v) w):pZ P md ops Q S (fuel+1) bc a w:=
 Zo hi (Region.noSelect_spec hs) A fuel bc a w (Region.free_spec hi E) (by simpa using G) I C h
theorem L7 {i:Nat} {fuel:Nat} {bc:Array Bool} {a:Act} {w:World} (G:lA ops bc i=true)
 (h:wpOpIn jd 0 P ops Q i (fun E w'=>S w'∧pZ P .any ops Q S fuel (bc.setIfInBounds i true) E w') a w):pZ P .any ops Q S (fuel+1) bc a w:=by
 have C:jl .any ops bc= [i]:=by simpa [lA] using G
 exact ⟨fun q=>(by rw [C] at q; cases q),fun j A=>by rw [C] at A; obtain rfl :=j5.1 A; exact h⟩
end
def lE (P:Program) (N:Fm) (ops:Array Oper) (Q:Exit→(Nat→Value)→World→Prop) (S:World→Prop) (fuel:Nat) (bc:Array Bool) (σ:Nat→Value) (w:World):Prop :=
 pZ P .any ops (lift N Q) S fuel bc (act N σ) w
section
variable {P:Program} {N:Fm} {ops:Array Oper} {Q:Exit→(Nat→Value)→World→Prop} {σ:Nat→Value} {w:World} {d':Option Nat} {d:Nat} {op:Op} {ty:TypeId} {pos :String} {af:Array Edge} {v:Value}
variable {S:World→Prop} {fuel:Nat} {bc:Array Bool}
theorem Me {id:Nat} {l:List Oper} (S:World→Prop) (a:N.r=none) (hm:P.follows .mixedOrders=true) (i:S w.drew) (h:lE P N l.toArray Q S l.length (tS l.length false) σ w.drew):dO P N (.region id l.toArray true) Q σ w:=by
 unfold dO
 rw [a]
 exact wpIn_region_any hm<|L5 _ _ _ _<|by rw [ot]; exact h
theorem yp (i:Nat) (hi:ops[i]? =some ⟨some d,op,ty,pos,af,none⟩) (q:iV N.F ops bc i=true)
 (C:∀ w,S w→(execOp (ev N σ) ⟨some d,op,ty,pos,af,none⟩).run P w= .ok (.value v) w) (A:S w)
 (k:lE P N ops Q S fuel (bc.setIfInBounds i true) (dy σ d v) w):lE P N ops Q S (fuel+1) bc σ w:=by
 simp only [iV,gT] at q
 refine DO hi q.1.1.1 q.1.1.2 q.1.2 (fun c a w=>oK (by have :=q.2; rwa [hi] at this) c a w) (.inl ⟨jO _ rfl _,fun w A=> ?_⟩) A ?_ (v:=v)
 · rw [ib]; exact C w A
 · rw [jG]; exact k
theorem nr (i:Nat) {j t:Nat} {want:Bool} (hi:ops[i]? =some ⟨some d,op,ty,pos,af,some (j,want)⟩) (q:iV N.F ops bc i=true)
 (C:jW ops j=some t) (E:gD t N.n=true) (G:σ t= .bool want)
 (I:∀ w,S w→(execOp (ev N σ) ⟨some d,op,ty,pos,af,some (j,want)⟩).run P w= .ok (.value v) w) (A:S w)
 (k:lE P N ops Q S fuel (bc.setIfInBounds i true) (dy σ d v) w):lE P N ops Q S (fuel+1) bc σ w:=by
 simp only [iV,gT] at q
 refine DO hi q.1.1.1 q.1.1.2 q.1.2 (fun c a w=>oK (by have :=q.2; rwa [hi] at this) c a w) (.inl ⟨by rw [pX aa C E G]; cases want <;> rfl,fun w A=> ?_⟩) A ?_ (v:=v)
 · rw [ib]; exact I w A
 · rw [jG]; exact k
theorem mi (i:Nat) {j t:Nat} {want b:Bool} (hi:ops[i]? =some ⟨some d,op,ty,pos,af,some (j,want)⟩) (q:iV N.F ops bc i=true)
 (E:jW ops j=some t) (G:gD t N.n=true) (I:σ t= .bool b) (C:(b==want)=false) (A:S w)
 (k:lE P N ops Q S fuel (bc.setIfInBounds i true) (dy σ d undef) w):lE P N ops Q S (fuel+1) bc σ w:=by
 simp only [iV,gT] at q
 refine DO hi q.1.1.1 q.1.1.2 q.1.2 (fun c a w=>oK (by have :=q.2; rwa [hi] at this) c a w) (.inr ⟨by rw [pX aa E G I,C],aa⟩) A ?_ (v:=undef)
 rw [jG]; exact k
theorem Zr {Q:Exit→Act→World→Prop} {o:Oper} {K:(Nat→Value)→World→Prop} {A:Act→World→Prop} (h:dP P N o σ w K) (hk:∀ σ w,K σ w→A (act N σ) w):o.wpIn jd 0 P (act N σ) w A Q:=by
 refine ⟨fun _ _=>trivial,?_⟩
 rw [show jd.round=none from rfl,wc]
 unfold dP jZ at h
 generalize (execOp (act N σ).eval o).run P w=x at h ⊢
 cases x with
 | ok n w'=>
   cases n <;> simp only [k3,qX] at h ⊢ <;>
    first
     | (obtain ⟨C,i,a⟩:=h; rw [i]; exact hk _ _ a)
     | (refine ⟨fun q=>(by cases q),D4 (callsIn_wide.2 h) fun e w'' he=> ?_⟩
        cases e with
        | returned v=>obtain ⟨C,i,a⟩:=he; simp only; rw [i]; exact hk _ _ a
        | panicked c=>exact he.elim
        | outgrown=>obtain ⟨_,_,E⟩:=he; exact E.elim)
     | (refine ⟨fun q=>(by cases q),Ej (Bt (r:=none) h) fun v w'' he=> ?_⟩
        obtain ⟨C,i,a⟩:=he; rw [i]; exact hk _ _ a)
 | halt x w'=>cases x <;> simp only [k3] at h
theorem ye (i:Nat) (hi:ops[i]? =some ⟨d',op,ty,pos,af,none⟩) (a:lA ops bc i=true)
 (h:dP P N ⟨d',op,ty,pos,af,none⟩ σ w (fun σ w=>S w∧lE P N ops Q S fuel (bc.setIfInBounds i true) σ w)):lE P N ops Q S (fuel+1) bc σ w:=by
 refine L7 a ?_
 unfold wpOpIn
 simp only [hi]
 rw [if_pos (jO _ rfl _)]
 exact Zr h fun _ _ hk=>hk
theorem Mf {l:Nat} {fo:Operand} {args:Array Operand} {q:Array TypeId} {R:Bool→World→Prop} (i:Nat) {j t:Nat} {want:Bool} {L:List Value} (hi:ops[i]? =some ⟨some d,.call ⟨.value fo,args,q⟩,ty,pos,af,some (j,want)⟩) (J:lA ops bc i=true)
 (I:jW ops j=some t) (O:gD t N.n=true) (U:σ t= .bool want) (G:ev N σ fo= .func (.yield l) #[] #[]) (C:args.toList.map (ev N σ)=L)
 (Y:YieldAt jd 0 P l L.toArray w fun e W'=> ∃ b,e= .returned (.bool b)∧R b W') (k:∀ b W',R b W'→S W'∧lE P N ops Q S fuel (bc.setIfInBounds i true) (dy σ d<|.bool b) W'):
 lE P N ops Q S (fuel+1) bc σ w:=by
 refine L7 J ?_
 unfold wpOpIn
 simp only [hi]
 rw [if_pos (by rw [pX rfl I O U]; cases want <;> rfl)]
 obtain ⟨fn,tmps,a,b,M,E⟩:=Y
 refine ⟨fun _ _=>trivial,?_⟩
 rw [show jd.round=none from rfl,wc,ib]
 have hm:args.map (ev N σ)=L.toArray:=by rw [← C,← nu]
 have V:(execOp (ev N σ) ⟨some d,.call ⟨.value fo,args,q⟩,ty,pos,af,some (j,want)⟩).run P w= .ok (.round l fn tmps a b) w:=by
  simp [execOp,resolve,G,qV,invoke,hm,M]
 rw [V]
 simp only [qX]
 refine ⟨fun A=>(by cases A),Eh E ?_⟩
 rintro e W' ⟨c,rfl,hw⟩
 simp only
 rw [jG]
 exact k c W' hw
theorem yn (q:(jl .any ops bc).isEmpty=true) (h:Q .normal σ w):lE P N ops Q S fuel bc σ w:=by
 have a:jl .any ops bc= []:=by simpa using q
 cases fuel with
 | zero=>exact ⟨a,σ,rfl,h⟩
 | succ n=>exact ⟨fun _=>⟨σ,rfl,h⟩,fun i hi=>by rw [a] at hi; cases hi⟩
theorem Mb {t:Nat} {b:Bool} (h:σ t= .bool b) (i:b=true→lE P N ops Q S fuel bc (dy σ t<|.bool true) w) (a:b=false→lE P N ops Q S fuel bc (dy σ t<|.bool false) w):lE P N ops Q S fuel bc σ w:=by
 cases b
 · have :=a rfl; rwa [n9 h] at this
 · have :=i rfl; rwa [n9 h] at this
end
attribute [irreducible] lE
end Go.Hb
end
namespace Go.Hb
theorem JS {b:UInt8} {m:Int} (h:48≤b.toNat∧b.toNat≤57) (hm:((b.toNat - 48:Nat):Int)≤m):eX [b] m= .ok (b.toNat - 48):=by
 have a:eO [b]=b.toNat - 48:=by simp [eO]
 have q:¬qC [b]:=by rintro (h | ⟨h,_⟩) <;> simp at h
 have hd:Bb [b]:=fun i hi=>by
  have hi:i=0:=by simpa using hi
  subst hi
  exact decide_eq_true h
 unfold eX
 rw [CJ q hd (by rw [a]; omega),a]
 rfl
theorem DN:eH 1 [65]=65:=by unfold eH; decide+kernel
theorem Zh:gH ic [65]= .ok 65:=by
 unfold gH gN ic
 simp only
 rw [DN]
 simp [eG,dW]
theorem Zi:kU 1 [65]= .ok [65]:=by
 have h1:dF 1 [65]= [[65]]:=by decide+kernel
 have h:dY 1 [65]=([65],0):=by
  unfold dY
  rw [h1,if_neg (by simp),if_neg (by simp [DN]),if_neg (by simp),uf,List.map_nil,DN]
  decide+kernel
 unfold kU
 rw [h]; rfl
def tK:Tx:= [83,70,88,32,65,32,89,32,50,10,83,70,88,32,65,32,48,32,115,10,83,70,88,32,65,32,48,32,101,114,10]
def ze:Tx:= [49,10,100,111,47,65,10]
def jY:aR:=⟨1,[],[],[0,0,0,0,0],3,[],[],[⟨65,2,true,0,2⟩],[⟨2,65,true,[],[115],[46],[],2⟩,⟨2,65,true,[],[101,114],[46],[],3⟩]⟩
def nq:List bD:= [([100,111],[65])]
theorem Za:bP tK= [(1,[[83,70,88],[65],[89],[50]]),(2,[[83,70,88],[65],[48],[115]]),(3,[[83,70,88],[65],[48],[101,114]])]:=by decide+kernel
theorem Zb:bP ze= [(1,[[49]]),(2,[[100,111,47,65]])]:=by decide+kernel
theorem LX {s:Tx} {ln:Nat} (hw:bA s=(s,[],false,0)) (a:s≠[48]) (i:gF s=0):fI 1 [] ⟨65,2,true,0,2⟩ ln [[83,70,88],[65],[48],s]= .ok ⟨2,65,true,[],s,[46],[],ln⟩:=by
 unfold fI
 rw [if_neg (by simp)]
 simp only [lT,Nd]
 rw [show eA true [48]= .ok [] from if_pos ⟨rfl,rfl⟩,hw]
 simp only
 rw [show jH (s,[],false,0)= .ok s from by unfold jH; rw [if_neg (by simp),if_neg a,if_neg (by simp [i])]]
 rfl
theorem Y6:fq tK= .ok jY:=by
 unfold fq
 rw [if_neg az,Za]
 simp only [cO,gC]
 have q:cg ((bH tK).length+1) ic [] [(2,[[83,70,88],[65],[48],[115]]),(3,[[83,70,88],[65],[48],[101,114]])] 1 [[83,70,88],[65],[89],[50]]= .ok (jY,[]):=by
  unfold cg
  simp only [lT]
  rw [if_neg az,if_neg az,if_neg az,if_neg az,if_neg az,if_neg az,if_neg az]
  unfold gM
  simp only [lT,Nd]
  rw [Zh]
  simp only
  rw [if_neg (by simp),JS (b:=50) az az]
  simp only
  rw [if_neg az]
  have i:∀ b,b=true→group [[83,70,88],[65]] (fI ic.kind ic.aliases ⟨65,if ([83,70,88]:Tx)=di then 2 else 1,b,ic.rules.length,NJ 50 - 48⟩) ((bH tK).length+1) (NJ 50 - 48) [(2,[[83,70,88],[65],[48],[115]]),(3,[[83,70,88],[65],[48],[101,114]])]= .ok (jY.rules,[]):=by
   intro b a
   subst a
   show group [[83,70,88],[65]] (fI 1 [] ⟨65,2,true,0,2⟩) _ 2 _=_
   rw [group,if_neg az,LX (by decide+kernel) az az]
   simp only
   rw [group,if_neg az,LX (by decide+kernel) az az]
   rfl
  rw [i _ (by simp)]
  simp only [decide_true]
  rfl
 rw [gJ]
 simp only [lT]
 rw [if_neg az,if_neg az,if_neg az,q]
 simp only
 rw [gJ]
 rfl
theorem Y8:fg jY ze= .ok nq:=by
 have a:ga jY [[100,111,47,65]]= .ok ([100,111],[65]):=by
  have hw:bA [100,111,47,65]=([100,111],[65],true,0):=by decide+kernel
  refine (Bj (row:= [[100,111,47,65]]) (set := [65]) aa ?_ ?_ ?_ ?_ ?_ ?_ ?_).trans ?_
  all_goals try simp only [lT,hw]
  · decide
  · decide
  · simp
  · show fV 1 [] [65]=_
    unfold fV; rw [if_pos rfl]; exact Zi
  · intro i hi
    have :i=0:=by simpa using hi
    subst this; decide
 have hn:eX [49] 8192= .ok 1:=JS az az
 rw [G5 az Zb rfl (show eX ([[49]].getD 0 []) 8192= .ok 1 from hn),e8,a]
 simp only
 rw [e8]
 rfl
def vP:List bV:= [⟨[100,111],0,-1,-1,-1⟩,⟨[100,111,115],0,0,-1,-1⟩,⟨[100,111,101,114],0,1,-1,-1⟩]
theorem LW (ad:Tx) (ln:Nat):dA ⟨2,65,true,[],ad,[46],[],ln⟩ [100,111]=some ([100,111]++ad):=by
 have a:c8 [46]=([],0):=by unfold c8; rw [if_neg (by simp),if_pos rfl]
 unfold dA iF
 simp only [a]
 rw [if_pos (by simp only [if_true,gC]; rfl)]
 rfl
theorem Y7:jV jY nq 0=vP:=by
 have h1:aU jY (flagsOf nq (0:Nat)) 1= []:=az
 have h2:aU jY (flagsOf nq (0:Nat)) 2= [0,1]:=az
 have h3:aU jY (cT jY (0:Nat)) 2= []:=az
 have h4:aU jY (cT jY (1:Nat)) 2= []:=az
 have a:∀ w f s,eC jY nq 0 w f s=kA jY nq 0 w f s:=fun w f s=>by unfold eC; rw [h1]; simp
 unfold jV
 rw [h2,a]
 simp only [q7,Nc,eh]
 unfold gd
 rw [show dA (jY.rules.getD 0 eY) (nq.getD 0 ([],[])).1=some [100,111,115] from LW [115] 2,show dA (jY.rules.getD 1 eY) (nq.getD 0 ([],[])).1=some [100,111,101,114] from LW [101,114] 3]
 simp only [h3,h4,Nc,eh,a]
 unfold kA
 rw [if_pos az,if_pos az,if_pos az]
 rfl
end Go.Hb
section
namespace Go.Hb.fj
open Go.Proofs
def kZ (l:List (Tx×Tx)):List Value:=l.flatMap fun p=> [str p.1,str p.2]
def nI (c:cX):List Value:= [bg c.flag,.int .i64 (c.kind:Nat),.bool c.ek,.int .i64 (c.first:Nat),.int .i64 (c.count:Nat)]
def m7 (l:List cX):List Value:=l.flatMap nI
def fz (q:c7×Value):List Value:= [.int .i64 (q.1.kind:Nat),bg q.1.flag,.bool q.1.ek,str q.1.strip,str q.1.add,str q.1.cond,q.2]
def iS (l:List (c7×Value)):List Value:=l.flatMap fz
structure dm where
 rb:Nat
 fb:Nat
 ms:Nat
 mt:Nat
 mc:Nat
 eof:Nat
structure e6 where
 v9:Value
 v10:Value
 v11:Value
 v12:Value
 sa:List Value
 rn:List Value
structure gW where
 vr:Value
 vs:List (Nat×Value)
 vn:Value
def oF (F:aR) (V:e6) (mc:Nat):List Value:= [.int .i64 (F.kind:Nat),str F.rB,str F.tr,bg (F.sp.getD 0 0),bg (F.sp.getD 1 0),bg (F.sp.getD 2 0),bg (F.sp.getD 3 0),bg (F.sp.getD 4 0),.int .i64 (F.least:Nat),V.v9,V.v10,V.v11,V.v12,.map (some mc)]
def vw (H:dm) (R:gW) (ln:Nat):List Value:= [.pointer (some ⟨H.fb,0,none⟩),R.vr,.int .i64 (ln:Nat),.int .i64 (H.eof:Nat),.map (some H.ms),.map (some H.mt),R.vn]
structure dS (w:World) (B fb mc:Nat) (F:aR) (V:e6):Prop where
 cells:w.heap[fb]? =some (.cells (oF F V mc).toArray 125 (0,0))
 o9:bq w B 128 2 V.v9 F.dd.length (kZ F.dd)
 eT:bq w B 70 1 V.v10 F.aliases.length V.sa
 al:eu w B 51 V.sa F.aliases
 ep:bq w B 131 5 V.v11 F.bw.length (m7 F.bw)
 dB:bq w B 77 7 V.v12 F.rules.length (iS<|F.rules.zip V.rn)
 nx:eu w B 51 V.rn (F.rules.map (·.next))
 cm:∃ f,dp w.heap mc (pM .u16) f∧∀ x:Nat,f (bg x)=(F.bw.findIdx? fun c=>decide (c.flag=x)).map fun i:Nat=>Value.int .i64 i
 lo:B≤fb∧B≤mc
 fR:F.sp.length=5
theorem dS.md {G:Nat→Prop} {w w':World} {B fb mc:Nat} {F:aR} {V:e6} (h:dS w B fb mc F V) (hm:Md G w w') {L:List Nat} (a:TF w L G) (i:(L.contains 127 || L.contains 130 || L.contains 72 || L.contains 53 || L.contains 133 || L.contains 79)=false) (I:¬G mc):dS w' B fb mc F V:=by
 simp only [nv] at i
 obtain ⟨⟨⟨⟨⟨h1,h2⟩,h3⟩,h4⟩,h5⟩,h6⟩:=i
 have q:∀ k,G k→∀ cur z,w.heap[k]?≠some (.cells cur 51 z):=fun k hk cur z E=>a.no (dt E) h4 hk
 obtain ⟨f,A,C⟩:=h.cm
 exact ⟨hm.gL a h.cells h1,cj h.o9 hm a h2,cj h.eT hm a h3,h.al.md hm q,cj h.ep hm a h5,cj h.dB hm a h6,h.nx.md hm q,⟨f,A.md hm I,C⟩,h.lo,h.fR⟩
theorem dS.wk {w w':World} {B fb mc:Nat} {F:aR} {V:e6} (h:dS w B fb mc F V) (hm:Wk w w'):dS w' B fb mc F V:=h.md (L:= []) hm (fun _ hk=>hk.elim) rfl id
structure du (w:World) (B:Nat) (H:dm) (F:aR) (R:gW) (rows:List Rw) (ln:Nat) (seen:List Tx):Prop where
 cells:w.heap[H.rb]? =some (.cells (vw H R ln).toArray 195 (0,0))
 rws:mr w B 209 rows.length R.vr (kL R.vs)
 rt:gZ w B 9 R.vs rows
 sm:∃ f,dp w.heap H.ms ji f∧∀ s:Tx,(f<|str s).getD (.int .i64 0)= .int .i64 (seen.count s:Nat)
 tm:∃ f,dp w.heap H.mt (pM .u16) f∧∀ x:Nat,x≠0→(f<|bg x).getD (.int .i64 0)= .int .i64 ((if eG F x=true then 1 else 0:Nat):Nat)
 on :bq w B 3 1 R.vn F.rules.length (F.rules.map fun r=>Value.int .i64 (r.line:Nat))
 lo:B≤H.rb∧B≤H.ms∧B≤H.mt
 ne:H.ms≠H.mt∧H.ms≠H.mc∧H.mt≠H.mc
theorem du.md {G:Nat→Prop} {w w':World} {B:Nat} {H:dm} {F:aR} {R:gW} {rows:List Rw} {ln:Nat} {seen:List Tx} (h:du w B H F R rows ln seen) (hm:Md G w w') {L:List Nat} (a:TF w L G) (q:(L.contains 197 || L.contains 211 || L.contains 11 || L.contains 5)=false) (J:¬G H.ms) (M:¬G H.mt):du w' B H F R rows ln seen:=by
 simp only [nv] at q
 obtain ⟨⟨⟨h1,h2⟩,h3⟩,h4⟩:=q
 obtain ⟨f,A,C⟩:=h.sm
 obtain ⟨g,E,I⟩:=h.tm
 exact ⟨hm.gL a h.cells h1,h.rws.md hm (fun k hk cur z i=>a.no (dt i) h2 hk),h.rt.md hm (fun k hk cur z i=>a.no (dt i) h3 hk),⟨f,A.md hm J,C⟩,⟨g,E.md hm M,I⟩,cj h.on hm a h4,h.lo,h.ne⟩
theorem du.wk {w w':World} {B:Nat} {H:dm} {F:aR} {R:gW} {rows:List Rw} {ln:Nat} {seen:List Tx} (h:du w B H F R rows ln seen) (hm:Wk w w'):du w' B H F R rows ln seen:=h.md (L:= []) hm (fun _ hk=>hk.elim) rfl id id
theorem du.dj {w:World} {B:Nat} {H:dm} {F:aR} {R:gW} {rows:List Rw} {ln:Nat} {seen:List Tx} (h:du w B H F R rows ln seen):Hb.aO w.heap H.rb 2=some (.int .i64 (ln:Nat)):=(aX h.cells).trans rfl
structure kM (F:aR) (rows:List Rw) (seen:List Tx):Prop where
 len:F.dd.length+F.aliases.length+F.bw.length+F.rules.length+rows.length≤70000
 sl:seen.length+rows.length≤70000
 row:∀ q∈rows,q.2≠[]∧q.2.length≤70000∧∀ x∈q.2,x.length≤70000
 kd:F.kind=1∨F.kind=2∨F.kind=3
 al:∀ l∈F.aliases,l.length≤64∧l.Pairwise (· < ·)
def St (w:World) (B:Nat) (H:dm) (F:aR) (rows:List Rw) (ln:Nat) (seen:List Tx):Prop := ∃ V R,dS w B H.fb H.mc F V∧du w B H F R rows ln seen∧kM F rows seen
abbrev fC (B:Nat) (H:dm) (w w':World):Prop :=Mw [197,127,130,72,133,79,5] H.ms H.mt H.mc B w w'
theorem du.dy {w w':World} {B:Nat} {H:dm} {F:aR} {R R':gW} {rows rows':List Rw} {ln ln':Nat} {seen:List Tx} (h:du w B H F R rows ln seen) (hm:Md (fun k=>k=H.rb) w w') (C:w'.heap[H.rb]? =some (.cells (vw H R' ln').toArray 195 (0,0))) (M:R'.vn=R.vn) (I:mr w B 209 rows'.length R'.vr (kL R'.vs)) (J:gZ w B 9 R'.vs rows'):du w' B H F R' rows' ln' seen:=by
 obtain ⟨f,q,E⟩:=h.sm
 obtain ⟨g,A,G⟩:=h.tm
 have a:TF w [197] (fun k=>k=H.rb):=TF.eq (dt h.cells) az
 exact ⟨C,I.md hm (fun k hk cur z i=>a.no (dt i) az hk),J.md hm (fun k hk cur z i=>a.no (dt i) az hk),⟨f,q.md hm (a.no (eD q) az),E⟩,⟨g,A.md hm (a.no (eD A) az),G⟩,M ▸ cj h.on hm a az,h.lo,h.ne⟩
theorem gZ.tl {w:World} {B e:Nat} {q:Nat×Value} {r:Rw} {vs:List (Nat×Value)} {rs:List Rw} (h:gZ w B e (q::vs) (r::rs)):gZ w B e vs rs:=⟨by have :=h.1; simpa using this,fun i a A h1 h2=>h.2 (i+1) a A h1 h2⟩
theorem dS.put {w w':World} {B fb mc:Nat} {F F':aR} {V:e6} (h:dS w B fb mc F V) (hm:Md (fun k=>k=fb) w w') (A:w'.heap[fb]? =some (.cells (oF F' V mc).toArray 125 (0,0))) (h1:F'.dd=F.dd) (h2:F'.aliases=F.aliases) (h3:F'.bw=F.bw) (h4:F'.rules=F.rules) (h5:F'.sp.length=5):dS w' B fb mc F' V:=by
 have a:TF w [127] (fun k=>k=fb):=TF.eq (dt h.cells) az
 have q:∀ k,k=fb→∀ cur z,w.heap[k]?≠some (.cells cur 51 z):=fu h.cells az
 obtain ⟨f,i,C⟩:=h.cm
 exact ⟨A,h1 ▸ cj h.o9 hm a az,h2 ▸ cj h.eT hm a az,h2 ▸ h.al.md hm q,h3 ▸ cj h.ep hm a az,h4 ▸ cj h.dB hm a az,h4 ▸ h.nx.md hm q,⟨f,i.md hm (a.no (eD i) az),h3 ▸ C⟩,h.lo,h5⟩
theorem du.fb {w w':World} {B:Nat} {H:dm} {F i:aR} {V:e6} {R:gW} {rows:List Rw} {ln:Nat} {seen:List Tx} (h:du w B H F R rows ln seen) (q:dS w B H.fb H.mc i V) (hm:Md (fun k=>k=H.fb) w w'):du w' B H F R rows ln seen:=by
 have a:TF w [127] (fun k=>k=H.fb):=TF.eq (dt q.cells) az
 obtain ⟨f,A,E⟩:=h.sm
 obtain ⟨g,C,G⟩:=h.tm
 exact h.md hm a az (a.no (eD A) az)<|a.no (eD C) az
theorem dS.rb {w w':World} {B:Nat} {H:dm} {F a:aR} {V:e6} {R:gW} {rows:List Rw} {ln:Nat} {seen:List Tx} (h:dS w B H.fb H.mc a V) (q:du w B H F R rows ln seen) (hm:Md (fun k=>k=H.rb) w w'):dS w' B H.fb H.mc a V:=by
 have i:TF w [197] (fun k=>k=H.rb):=TF.eq (dt q.cells) az
 obtain ⟨f,A,C⟩:=h.cm
 exact h.md hm i az<|i.no (eD A) az
theorem du.congr {w:World} {B:Nat} {H:dm} {F F':aR} {R:gW} {rows:List Rw} {ln:Nat} {seen:List Tx} (h:du w B H F R rows ln seen) (q:F'.rules=F.rules) (hd:∀ x,eG F' x=eG F x):du w B H F' R rows ln seen:=by
 obtain ⟨g,a,i⟩:=h.tm
 exact ⟨h.cells,h.rws,h.rt,h.sm,⟨g,a,fun x A=>by rw [hd]; exact i x A⟩,q ▸ h.on,h.lo,h.ne⟩
theorem du.vj {w w':World} {B:Nat} {H:dm} {F F':aR} {R:gW} {rows:List Rw} {ln:Nat} {seen:List Tx} {f:Value→Option Value} (h:du w B H F R rows ln seen) (hm:Md (fun k=>k=H.mt) w w') (q:dp w'.heap H.mt (pM .u16) f) (G:F'.rules=F.rules) (hd:∀ x:Nat,x≠0→(f<|bg x).getD (.int .i64 0)= .int .i64 ((if eG F' x=true then 1 else 0:Nat):Nat)):du w' B H F' R rows ln seen:=by
 obtain ⟨g,E,_⟩:=h.tm
 obtain ⟨f0,A,C⟩:=h.sm
 have a:TF w [1] (fun k=>k=H.mt):=TF.eq (eD E) az
 exact ⟨hm.gL a h.cells az,h.rws.md hm (fun k hk cur z i=>a.no (dt i) az hk),h.rt.md hm (fun k hk cur z i=>a.no (dt i) az hk),⟨f0,A.md hm h.ne.1,C⟩,⟨f,q,hd⟩,G ▸ cj h.on hm a az,h.lo,h.ne⟩
theorem dS.vj {w w':World} {B:Nat} {H:dm} {F a:aR} {V:e6} {R:gW} {rows:List Rw} {ln:Nat} {seen:List Tx} (h:dS w B H.fb H.mc a V) (i:du w B H F R rows ln seen) (hm:Md (fun k=>k=H.mt) w w'):dS w' B H.fb H.mc a V:=by
 obtain ⟨g,q,_⟩:=i.tm
 exact h.md (L:= [1]) hm (TF.eq (eD q) az) az fun h=>i.ne.2.2 h.symm
theorem fC.fb {w w':World} {B:Nat} {H:dm} {i:aR} {V:e6} (a:dS w B H.fb H.mc i V) (hm:Md (fun k=>k=H.fb) w w'):fC B H w w':=Mw.of hm (TF.eq (dt a.cells) az) fun k hk=>hk ▸ a.lo.1
theorem fC.rb {w w':World} {B:Nat} {H:dm} {F:aR} {R:gW} {rows:List Rw} {ln:Nat} {seen:List Tx} (a:du w B H F R rows ln seen) (hm:Md (fun k=>k=H.rb) w w'):fC B H w w':=Mw.of hm (TF.eq (dt a.cells) az) fun k hk=>hk ▸ a.lo.1
theorem fC.mt {w w':World} {B:Nat} {H:dm} {F:aR} {R:gW} {rows:List Rw} {ln:Nat} {seen:List Tx} (a:du w B H F R rows ln seen) (hm:Md (fun k=>k=H.mt) w w'):fC B H w w':=hm.mono fun k _ hk=>⟨hk ▸ a.lo.2.2,.inr<|.inl hk⟩
def jq (B:Nat) (H:dm) (seen:List Tx) (X:Except (Nat×Nat) (aR×List Rw)) (w:World) (v:Value) (w':World):Prop :=v= .tuple #[]∧∃ F' rows' ln',X= .ok (F',rows')∧St w' B H F' rows' ln' seen∧fC B H w w'
def jo (B:Nat) (H:dm) (X:Except (Nat×Nat) (aR×List Rw)) (w:World) (c:List PanicEntry) (w':World):Prop := ∃ l e,X= .error (l,e)∧c=jh 47 l (e:Nat)∧fC B H w w'
def ks (F:aR) (seen:List Tx):Prop := ∀ k∈ea,k∉seen→F.sp.getD (ea.idxOf k) 0=0
theorem R5 {F:aR} {i x:Nat} (hi:i < F.sp.length) (a:F.sp.getD i 0=0) (y:Nat) (C:y≠0):eG {F with sp:=F.sp.set i x} y=(decide (y=x) || eG F y):=by
 unfold eG
 show (decide (y∈F.sp.set i x) || _)=_
 rw [← Bool.or_assoc]
 congr 1
 rw [← Bool.decide_or,decide_eq_decide]
 constructor
 · intro h
   rcases Ex h with h | h
   · exact .inr h
   · exact .inl h
 · rintro (h | h)
   · subst h; exact List.mem_set hi _
   · obtain ⟨j,A⟩:=wq h
     by_cases q:i=j
     · subst q
       rw [cR,A] at a
       exact absurd a C
     · exact iN (i:=j)<|by rw [k6,if_neg q]; exact A
theorem Tg.vk {w:World} {B e A n cp b:Nat} {a:Option Addr} {xs:List Value} {cs:Array Value} {z:Nat×Nat} (h:Tg w B e n (.slice a n cp) xs) (J:xs≠[]) (i:w.heap[b]? =some (.cells cs A z)) (G:e≠A):¬(bk a=b):=by
 obtain ⟨M,O,I,_,E⟩:=h
 cases I
 rcases E with rfl | ⟨q,cur,z2,rfl,_,C,_⟩
 · exact absurd aa J
 · rintro rfl
   rw [show (bk<|some ⟨q,0,none⟩)=q from rfl] at i
   rw [C] at i
   simp only [fU,vY] at i
   exact G i.2.1
theorem S7 {F:aR} {V:e6} {mc i o x:Nat} (h5:F.sp.length=5) (hi:i < 5) (q:o=3 +i):(oF F V mc).set o (bg x)=oF {F with sp:=F.sp.set i x} V mc:=by
 subst q
 obtain ⟨k,cs,tr,sp,le,A,al,cl,ru⟩:=F
 match sp,h5 with
 | [a,b,c,d,e],_=>
   match i,hi with
   | 0,_=>rfl
   | 1,_=>rfl
   | 2,_=>rfl
   | 3,_=>rfl
   | 4,_=>rfl
theorem GZ (b:Bool):decide (((if b=true then 1 else 0:Nat):Int)=0)= !b:=by cases b <;> rfl
theorem LF {x y:Nat} (h:bg x=bg y):x=y:=by unfold bg at h; injection h with _ h; omega
theorem Lv {F F':aR} {f:Value→Option Value} {x:Nat} (hd:eG F x=false) (q:∀ y:Nat,y≠0→(f<|bg y).getD (.int .i64 0)= .int .i64 ((if eG F y=true then 1 else 0:Nat):Nat)) (i:∀ y,y≠0→eG F' y=(decide (y=x) || eG F y)) (y:Nat) (a:y≠0):(bU f (bg x) (.int .i64 (1:Nat))<|bg y).getD (.int .i64 0)= .int .i64 ((if eG F' y=true then 1 else 0:Nat):Nat):=by
 rw [i y a]
 by_cases h:y=x
 · subst h; rw [vq]; simp
 · rw [tx (fun h2=>h<|LF h2),q y a]; simp [h]
theorem iq {G:Nat→Prop} {w w':World} (h:Md G w.drew w'):Md G w w':=⟨h.os,h.output,h.size,h.cx⟩
theorem eu.get {w:World} {B e i:Nat} {vs:List Value} {a:List (List Nat)} (h:eu w B e vs a) (hi:i < a.length):∃ v,vs[i]? =some v∧Tg w B e (a.getD i []).length v ((a.getD i []).map bg):=by
 have h1:i < vs.length:=by rw [h.1]; exact hi
 refine ⟨vs[i],cC h1,h.2 i _ _ (cC h1) ?_⟩
 rw [cR,cC hi]; rfl
theorem Tg.tt {w:World} {B e n cp:Nat} {a:Option Addr} {xs:List Value} (h:Tg w B e n (.slice a n cp) xs) (A:xs.length=n) (i:a=none):n=0:=by
 obtain ⟨E,I,C,_,q⟩:=h
 cases C
 rcases q with rfl | ⟨G,cur,z2,h2,_⟩
 · exact A.symm
 · rw [i] at h2; cases h2
theorem Tg.Ju {G:Nat→Prop} {w w':World} {B e n:Nat} {v:Value} {xs:List Value} (h:Tg w B e n v xs) (hm:Md G w w') (A:∀ k,G k→k < B):Tg w' B e n v xs:=by
 obtain ⟨a,cp,rfl,i,h | ⟨b,cur,z,rfl,C,q,E⟩⟩:=h
 · exact ⟨a,cp,aa,i,.inl h⟩
 · exact ⟨_,cp,aa,i,.inr ⟨b,cur,z,aa,C,by rw [hm.cx b (cU.1 q).1 (fun hk=>by have :=A b hk; omega)]; exact q,E⟩⟩
end Go.Hb.fj
end
