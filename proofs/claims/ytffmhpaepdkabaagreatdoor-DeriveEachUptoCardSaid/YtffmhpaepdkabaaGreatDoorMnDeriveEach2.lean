/-
  Walks and plain laws that the law rests on, laid together. No conditions but those that each theorem names.
-/
import Derived.Test.YtffmhpaepdkabaaGreatDoorMnDeriveEach1
set_option linter.unusedVariables false
set_option maxRecDepth 20000
set_option maxHeartbeats 1000000
open Array renaming foldl_toList→Me,getElem?_eq_some_iff→cQ,getElem?_setIfInBounds_ne→Mf,getElem?_setIfInBounds_self_of_lt→Mg,length_toList→vJ,replicate→tJ,toList_inj→zj,toList_map→nk,toList_zip→Mi
open Bool renaming and_eq_true→gU,noConfusion→ei,or_eq_false_iff→nm
open Classical renaming not_not→jq
open Except.ok renaming injEq→rU
open Go.Act renaming put_comm→rV
open Go.Calls renaming mono→lN
open Go.CallsD renaming mono→Mq
open Go.CallsIn renaming mono→DQ
open Go.Code renaming wp_mono→Mr
open Go.Deferred renaming ofValue→qM
open Go.Extern.BytealgCount renaming count→Zt
open Go.Extern.BytealgIndexByte renaming indexByte→Zu
open Go.Extern renaming find→Mx,findNext→My
open Go.Fence renaming wide→jj
open Go.FrameMode renaming noConfusion→Mz
open Go.Instr renaming beginRound→MB,checkKey→tL,field→MC,fill→oP,findKey→zn,findNow→vN,keyThatStays→DS,mapUpdate→DT,sameBits→MF,sameNow→DU,sliceAt→rW,sliceBounds→oQ,sureAddr→qN,typeAssert→MG
open Go.Lib renaming indexByte→MH,run_clear_slice→MI
open Go.Obj.cells renaming injEq→vP
open Go.Oper renaming semAt_eq→MJ,semAt_none→vS,upon→kV,uponIn→qO,wp→jZ
open Go.Program renaming underlying→MK
open Go.Region renaming Mode→rY,binds→j0,ready→jr
open Go.RoundIn renaming mono→D4
open Go.Rows renaming mono→D5
open Go.RowsIn renaming mono→D6
open Go.Sem renaming run→zp
open Go.Value renaming ownBlock→iU,slice→bR
open Go.Value.slice renaming injEq→mL
open Go.World renaming alloc_heap_new→zu,frozen?→MR,ownsRow→bu,putObj→MS,putObj_heap_other→n7,putObj_heap_same→zw,setCell→zx,size_alloc→MT
open List.Pairwise renaming filter→Zv,imp→Zw
open List renaming append_assoc→dF,append_nil→ek,eq_nil_of_length_eq_zero→fS,ext_getElem?→pW,flatMap_cons→qU,flatMap_nil→M3,foldl_cons→r6,getD_cons_succ→M4,getD_cons_zero→lO,getD_eq_getElem?_getD→cV,getElem?_append_left→me,getElem?_append_right→mN,getElem?_cons_zero→tU,getElem?_eq_getElem→cD,getElem?_eq_some_iff→fJ,getElem?_map→im,getElem?_of_mem→vZ,getElem?_set→kW,getElem?_toArray→M6,length_append→bL,length_cons→cT,length_drop→fP,length_filter_le→zB,length_map→fK,length_nil→ga,length_replicate→n9,length_singleton→e5,length_take→dT,mapM_toArray→wi,map_append→iq,map_cons→tW,mem_append→jz,mem_cons→gr,mem_cons_of_mem→tX,mem_flatMap→zD,mem_map→oT,mem_of_getElem?→iP,mem_or_eq_of_mem_set→Ej,mem_range→tY,mem_singleton→j4,nodup_append→Ek,not_mem_nil→tZ,pairwise_lt_range→Ng,pairwise_map→Nh,range→j5,replicate→km,size_toArray→oa,take_append→wo,take_of_length_le→eN,take_take→Nl,take_zero→oc
open Nat renaming add_sub_cancel→r8,ble→oU,blt→gD,le_refl→cB,le_trans→gd,min_eq_left→oV,mul_le_mul_right→sc,mul_one→oW,zero_le→jD
open Option renaming map_eq_some_iff→oY,map_some→mg
open Option.some renaming inj→qW,injEq→fQ
open Prod renaming fst→mO
open Prod.mk renaming injEq→se
open UInt8 renaming toNat→NA,toNat_inj→kX
open Go.Proofs.Tryz
open Go.RowKit

section
namespace Go.Hb
abbrev Tx:Type :=List UInt8
structure db where
 flag:Nat
 kind:Nat
 et:Bool
 first :Nat
 count:Nat
structure dd where
 kind:Nat
 flag:Nat
 et:Bool
 strip:Tx
 add:Tx
 cond:Tx
 next :List Nat
 line:Nat
structure aT where
 kind:Nat
 rh:Tx
 tr:Tx
 sp:List Nat
 least:Nat
 dm:List (Tx×Tx)
 aliases:List (List Nat)
 bw:List db
 rules:List dd
def ig:Tx:= [70,76,65,71]
def iJ:Tx:= [83,69,84]
def iS:Tx:= [84,82,89]
def kg:Tx:= [78,69,69,68,65,70,70,73,88]
def kA:Tx:= [70,79,82,66,73,68,68,69,78,87,79,82,68]
def kP:Tx:= [75,69,69,80,67,65,83,69]
def lf:Tx:= [67,79,77,80,79,85,78,68,70,76,65,71]
def lJ:Tx:= [78,79,83,85,71,71,69,83,84]
def kf:Tx:= [67,79,77,80,79,85,78,68,77,73,78]
def e9:Tx:= [82,69,80]
def eJ:Tx:= [65,70]
def fE:Tx:= [80,70,88]
def dp:Tx:= [83,70,88]
def ry:Tx:= [115,104,111,114,116]
def tc:Tx:= [108,111,110,103]
def uU:Tx:= [110,117,109]
def ec:List Tx:= [kg,kA,kP,lf,lJ]
def width (k:Tx):Nat:=if k∈ec∨k=ig∨k=iJ∨k=iS∨k=kf∨k=e9∨k=eJ then 2 else if k=fE∨k=dp then 4 else 0
def gF (w:Tx):Nat:=if w= []∨gu w=false then 21 else if 32 < w.length then 22 else 0
def eB (none:Bool) (fd:Tx):Except Nat Tx:=
 if none=true∧fd= [48] then .ok []
 else if (bA fd).2.2.2≠0 then .error (bA fd).2.2.2
 else if (bA fd).2.2.1=true then .error 114
 else if gF (bA fd).1≠0 then .error (gF (bA fd).1)
 else .ok (bA fd).1
def dY (cs:List db) (x:Nat):Option db:=cs.find? fun c=>decide (c.flag=x)
def eG (f:aT) (x:Nat):Bool:=decide (x∈f.sp) || (dY f.bw x).isSome
noncomputable def gH (f:aT) (s:Tx):Except Nat Nat:=
 if (gN f.kind s).2≠0 then .error (gN f.kind s).2 else if eG f (gN f.kind s).1=true then .error 115 else .ok (gN f.kind s).1
noncomputable def kN (kind:Nat) (s:Tx):Except Nat (List Nat):=if (ea kind s).2≠0 then .error (ea kind s).2 else .ok (ea kind s).1
noncomputable def eX (s:Tx) (most:Int):Except Nat Nat:=if (eb s most).2≠0 then .error 13 else .ok (eb s most).1
noncomputable def fR (kind:Nat) (al:List (List Nat)) (s:Tx):Except Nat (List Nat):=
 if al= [] then kN kind s
 else match eX s al.length with
  | .error _=> .error 13
  | .ok n=>if n=0 then .error 13 else .ok (al.getD (n - 1) [])
noncomputable def kS (kind:Nat) (al:List (List Nat)) (a:Nat) (r:lC):Except Nat (List Nat):=
 if r.2.2.1=true then (if a=1 then .error 118 else fR kind al r.2.1) else .ok []
def kL (row:List Tx):Except Nat Tx:=
 if row.length=5 then (if gu (row.getD 4 [])=false then .error 21 else if (di<|row.getD 4 []).2≠0 then .error (di<|row.getD 4 []).2 else .ok (l5 (di<|row.getD 4 []).1)) else .ok [46]
def jJ (r:lC):Except Nat Tx:=if r.2.2.2≠0 then .error r.2.2.2 else if r.1= [48] then .ok [] else if gF r.1≠0 then .error (gF r.1) else .ok r.1
noncomputable def fF (kind:Nat) (al:List (List Nat)) (c:db) (ln:Nat) (row:List Tx):Except Nat dd:=
 if row.length≠4∧row.length≠5 then .error 111
 else match eB true (row.getD 2 []) with
  | .error e=> .error e
  | .ok st=>match jJ (bA<|row.getD 3 []) with
    | .error e=> .error e
    | .ok ad=>match kS kind al c.kind (bA<|row.getD 3 []) with
      | .error e=> .error e
      | .ok nx=>match kL row with
        | .error e=> .error e
        | .ok cd=> .ok ⟨c.kind,c.flag,c.et,st,ad,cd,nx,ln⟩
def kE (ln:Nat) (row:List Tx):Except Nat (Tx×Tx):=
 if row.length≠3 then .error 111
 else match eB false (row.getD 1 []) with
  | .error e=> .error e
  | .ok a=>match eB true (row.getD 2 []) with
    | .error e=> .error e
    | .ok b=> .ok (a,b)
noncomputable def kq (kind:Nat) (ln:Nat) (row:List Tx):Except Nat (List Nat):=if row.length≠2 then .error 111 else kN kind (row.getD 1 [])
def group {α:Type} (hd:List Tx) (rd:Nat→List Tx→Except Nat α) (eof:Nat):Nat→List Rw→Except (Nat×Nat) (List α×List Rw)
 | 0,rows=> .ok ([],rows)
 | _+1,[]=> .error (eof,116)
 | n+1,(ln,row)::rows=>if row.take hd.length≠hd then .error (ln,116) else match rd ln row with
   | .error e=> .error (ln,e)
   | .ok x=>match group hd rd eof n rows with
     | .error e=> .error e
     | .ok r=> .ok (x::r.1,r.2)
def jw (s:Tx):Nat:=if s=ry then 1 else if s=tc then 2 else if s=uU then 3 else 0
def ordered (hs:List Tx):Bool:= !hs.any fun h=>decide (h∈ec∨h=eJ∨h=fE∨h=dp)
noncomputable def gM (eof:Nat) (f:aT) (rows:List Rw) (ln:Nat) (row:List Tx):Except (Nat×Nat) (aT×List Rw):=
 match gH f (row.getD 1 []) with
 | .error e=> .error (ln,e)
 | .ok x=>if row.getD 2 []≠[89]∧row.getD 2 []≠[78] then .error (ln,114)
   else match eX (row.getD 3 []) 1024 with
    | .error e=> .error (ln,e)
    | .ok n=>if 1024 < f.rules.length+n then .error (ln,117)
      else match group [row.getD 0 [],row.getD 1 []] (fF f.kind f.aliases ⟨x,if row.getD 0 []=dp then 2 else 1,decide (row.getD 2 []= [89]),f.rules.length,n⟩) eof n rows with
       | .error e=> .error e
       | .ok r=> .ok ({f with bw:=f.bw++ [⟨x,if row.getD 0 []=dp then 2 else 1,decide (row.getD 2 []= [89]),f.rules.length,n⟩],rules:=f.rules++r.1},r.2)
noncomputable def kj (f:aT) (rows:List Rw) (ln:Nat) (row:List Tx):Except (Nat×Nat) (aT×List Rw):=
 match gH f (row.getD 1 []) with
 | .error e=> .error (ln,e)
 | .ok x=> .ok ({f with sp:=f.sp.set (ec.idxOf<|row.getD 0 []) x},rows)
def kB (f:aT) (hs:List Tx) (rows:List Rw) (ln:Nat) (row:List Tx):Except (Nat×Nat) (aT×List Rw):=
 if ordered hs=false then .error (ln,113) else if jw (row.getD 1 [])=0 then .error (ln,114) else .ok ({f with kind:=jw<|row.getD 1 []},rows)
def mF (f:aT) (rows:List Rw) (ln:Nat) (row:List Tx):Except (Nat×Nat) (aT×List Rw):=
 if gu (row.getD 1 [])=false then .error (ln,21) else .ok ({f with rh:=row.getD 1 []},rows)
def mJ (f:aT) (rows:List Rw) (ln:Nat) (row:List Tx):Except (Nat×Nat) (aT×List Rw):=
 if (letE<|row.getD 1 []).2≠0 then .error (ln,(letE<|row.getD 1 []).2) else .ok ({f with tr:=(letE<|row.getD 1 []).1},rows)
noncomputable def kR (f:aT) (rows:List Rw) (ln:Nat) (row:List Tx):Except (Nat×Nat) (aT×List Rw):=
 match eX (row.getD 1 []) 64 with
 | .error e=> .error (ln,e)
 | .ok n=>if n=0 then .error (ln,13) else .ok ({f with least:=n},rows)
noncomputable def ki (eof:Nat) (f:aT) (rows:List Rw) (ln:Nat) (row:List Tx):Except (Nat×Nat) (aT×List Rw):=
 match eX (row.getD 1 []) 256 with
 | .error e=> .error (ln,e)
 | .ok n=>match group [e9] kE eof n rows with
   | .error e=> .error e
   | .ok r=> .ok ({f with dm:=f.dm++r.1},r.2)
noncomputable def jT (eof:Nat) (f:aT) (hs:List Tx) (rows:List Rw) (ln:Nat) (row:List Tx):Except (Nat×Nat) (aT×List Rw):=
 if fE∈hs∨dp∈hs then .error (ln,113)
 else match eX (row.getD 1 []) 1024 with
  | .error e=> .error (ln,e)
  | .ok n=>match group [eJ] (kq f.kind) eof n rows with
    | .error e=> .error e
    | .ok r=> .ok ({f with aliases:=f.aliases++r.1},r.2)
noncomputable def cw (eof:Nat) (f:aT) (hs:List Tx) (rows:List Rw) (ln:Nat) (row:List Tx):Except (Nat×Nat) (aT×List Rw):=
 if row.getD 0 []∈ec then kj f rows ln row
 else if row.getD 0 []=ig then kB f hs rows ln row
 else if row.getD 0 []=iJ then mF f rows ln row
 else if row.getD 0 []=iS then mJ f rows ln row
 else if row.getD 0 []=kf then kR f rows ln row
 else if row.getD 0 []=e9 then ki eof f rows ln row
 else if row.getD 0 []=eJ then jT eof f hs rows ln row
 else gM eof f rows ln row
noncomputable def gJ (eof:Nat):Nat→aT→List Tx→List Rw→Except (Nat×Nat) aT
 | 0,f,_,rows=>if rows= [] then .ok f else .error (0,0)
 | _+1,f,_,[]=> .ok f
 | k+1,f,hs,(ln,row)::rows=>
   if width (row.getD 0 [])=0 then .error (ln,110)
   else if row.length≠width (row.getD 0 []) then .error (ln,111)
   else if width (row.getD 0 [])=2∧row.getD 0 []∈hs then .error (ln,112)
   else match cw eof f hs rows ln row with
    | .error e=> .error e
    | .ok r=>gJ eof k r.1 (hs++ [row.getD 0 []]) r.2
def mz (f:aT) (x:Nat):Bool:=decide (x=f.sp.getD 0 0) || (match dY f.bw x with | some c=>decide (c.kind=2) | none=>false)
def ny (f:aT) (r:dd):Bool:=r.next.any fun x=> !mz f x
def hZ:aT:=⟨1,[],[],[0,0,0,0,0],3,[],[],[],[]⟩
noncomputable def fq (t:Tx):Except (Nat×Nat) aT:=
 if 65536 < t.length then .error (0,10)
 else match gJ ((bJ t).length+1) (bQ t).length hZ [] (bQ t) with
  | .error e=> .error e
  | .ok f=>match f.rules.find? (ny f) with
    | some r=> .error (r.line,118)
    | none=> .ok f
theorem yb {α:Type} {hd:List Tx} {rd:Nat→List Tx→Except Nat α} {eof:Nat} :∀ (n:Nat) (rows:List Rw) (r:List α×List Rw),group hd rd eof n rows= .ok r→r.2.length≤rows.length∧r.1.length=n∧∀ q∈r.2,q∈rows:=by
 intro n
 induction n with
 | zero=>intro rows r h; simp only [group,rU] at h; subst h; exact ⟨cB _,rfl,fun q a=>a⟩
 | succ n i=>
   intro rows r h
   cases rows with
   | nil=>simp [group] at h
   | cons q rows=>
     obtain ⟨ln,row⟩:=q
     simp only [group] at h
     split at h
     · cases h
     · cases hr:rd ln row with
       | error e=>rw [hr] at h; cases h
       | ok x=>
         rw [hr] at h
         simp only at h
         cases hg:group hd rd eof n rows with
         | error e=>rw [hg] at h; cases h
         | ok A=>
           rw [hg] at h
           simp only [rU] at h
           subst h
           have :=i rows A hg
           refine ⟨by simp only [cT]; omega,by simp only [cT]; omega,fun q a=>tX _<|this.2.2 q a⟩
def iW {α:Type} (hd:List Tx) (rd:Nat→List Tx→Except Nat α) (eof:Nat) (T:Except (Nat×Nat) (List α×List Rw)) (xs:List α) (n:Nat) (rows:List Rw):Prop :=
 T=match group hd rd eof n rows with
  | .error e=> .error e
  | .ok r=> .ok (xs++r.1,r.2)
theorem iW.start {α:Type} {hd:List Tx} {rd:Nat→List Tx→Except Nat α} {eof n:Nat} {rows:List Rw} :iW hd rd eof (group hd rd eof n rows) [] n rows:=by
 unfold iW; cases group hd rd eof n rows <;> rfl
section
variable {α:Type} {hd:List Tx} {rd:Nat→List Tx→Except Nat α} {eof n:Nat} {T:Except (Nat×Nat) (List α×List Rw)} {xs:List α} {rows:List Rw} {ln:Nat} {row:List Tx}
theorem iW.ends (h:iW hd rd eof T xs n []) (hn:0 < n):T= .error (eof,116):=by
 obtain ⟨m,rfl⟩:∃ m,n=m+1:=⟨n - 1,ab⟩
 exact h
theorem iW.other (h:iW hd rd eof T xs n ((ln,row)::rows)) (hn:0 < n) (a:row.take hd.length≠hd):T= .error (ln,116):=by
 obtain ⟨m,rfl⟩:∃ m,n=m+1:=⟨n - 1,ab⟩
 unfold iW at h; simp only [group] at h; rw [if_pos a] at h; exact h
theorem iW.bad {e:Nat} (h:iW hd rd eof T xs n ((ln,row)::rows)) (hn:0 < n) (a:row.take hd.length=hd) (he:rd ln row= .error e):T= .error (ln,e):=by
 obtain ⟨m,rfl⟩:∃ m,n=m+1:=⟨n - 1,ab⟩
 unfold iW at h; simp only [group] at h; rw [if_neg (fun h2=>h2 a),he] at h; exact h
theorem iW.step {x:α} (h:iW hd rd eof T xs n ((ln,row)::rows)) (hn:0 < n) (a:row.take hd.length=hd) (he:rd ln row= .ok x):iW hd rd eof T (xs++ [x]) (n - 1) rows:=by
 obtain ⟨m,rfl⟩:∃ m,n=m+1:=⟨n - 1,ab⟩
 unfold iW at h ⊢; simp only [group] at h; rw [if_neg (fun h2=>h2 a),he] at h
 simp only [r8] at h ⊢
 rw [h]
 cases group hd rd eof m rows with
 | error e=>rfl
 | ok r=>simp only [dF]; rfl
theorem iW.done (h:iW hd rd eof T xs 0 rows):T= .ok (xs,rows):=by
 unfold iW at h; simpa [group] using h
end
end Go.Hb
end
section
set_option linter.unusedSimpArgs false
namespace Go.Hb
open Classical
structure oh (P:Program) (k:TypeId) (isK:Value→Prop):Prop where
 key:wy P k isK
 stays:∀ w v,isK v→(DS v v).run P w= .ok v w
def jn (v:Value):Prop := ∃ s:List UInt8,v=str s
def pE (q:IntKind) (v:Value):Prop := ∃ a:Int,v= .int q a
theorem Hi {d:TypeDesc} {isK:Value→Prop} (hs:∀ x y,isK x→isK y→∃ a,DU d x y=some a∧(a=true↔x=y)) {x:Value} (C:isK x):∀ (es:List MapEntry) (i:Nat),(∀ e∈es,isK e.key)→
 (vN d x es i=some none∧∀ e∈es,e.key≠x)∨∃ j e,vN d x es i=some (some (i+j,e.val))∧es[j]? =some e∧e.key=x
 | [],i,_=> .inl ⟨rfl,fun _ h=>by simp at h⟩
 | e::es,i,h=>by
   obtain ⟨a,h1,h2⟩:=hs x e.key C<|h e<|by simp
   cases a with
   | true =>exact .inr ⟨0,e,by simp [vN,h1],rfl,(h2.1 rfl).symm⟩
   | false =>
     have G:e.key≠x:=fun E=>by cases h2.2 E.symm
     rcases Hi hs C es (i+1) (fun e he=>h e<|by simp [he]) with ⟨h3,h4⟩ | ⟨j,q,h3,h4,h5⟩
     · refine .inl ⟨by simp [vN,h1,h3],fun q A=> ?_⟩
       rcases gr.1 A with rfl | A
       · exact G
       · exact h4 q A
     · refine .inr ⟨j+1,q,?_,h4,h5⟩
       simp only [vN,h1,h3]; rw [show i+1 +j=i+(j+1) from by omega]
theorem IQ {P:Program} {k:TypeId} {d:TypeDesc} {isK:Value→Prop} (hk:P.underlying k=some d) (hs:∀ x y,isK x→isK y→∃ a,DU d x y=some a∧(a=true↔x=y)) (i:∀ em w v,isK v→(tL em 10000 k v).run P w= .ok () w):wy P k isK where
 check:=i
 find w x es hx hes:=by
  rcases Hi hs hx es 0 hes with ⟨h1,h2⟩ | ⟨j,e,h1,h2,h3⟩
  · exact .inl ⟨by simp [zn,eC hk,h1],h2⟩
  · exact .inr ⟨j,e,by simp [zn,eC hk,h1],h2,h3⟩
theorem EY (a b:ByteArray):(a==b)=decide (a=b):=by
 rw [Bool.eq_iff_iff,decide_eq_true_iff]
 show ((a.data==b.data)=true)↔_
 rw [beq_iff_eq]
 exact ⟨fun h=>by cases a; cases b; cases h; rfl,fun h=>by rw [h]⟩
theorem U0 {P:Program} {k:TypeId} (hk:P.underlying k=some .string):oh P k jn where
 key:=IQ hk (by
  rintro _ _ ⟨a,rfl⟩ ⟨b,rfl⟩
  refine ⟨_,aa,?_⟩
  rw [EY,decide_eq_true_iff]
  constructor
  · intro h; unfold str; rw [h]
  · intro h; unfold str at h; cases h; rfl) (by rintro em w _ ⟨a,rfl⟩; exact Qs (n:=9999) hk w)
 stays w v hv:=by obtain ⟨a,rfl⟩:=hv; simp [DS,MF,str,EY]
theorem Qr {P:Program} {k:TypeId} {q r:IntKind} {em:Bool} {n:Nat} {a:Int} (hk:P.underlying k=some (.int q)) (w:World):(tL em (n+1) k<|.int r a).run P w= .ok () w:=by
 simp only [tL,Sem.run_bind,eC hk,Result.andThen_ok,Sem.run_pure]
theorem UZ {P:Program} {k:TypeId} {q r:IntKind} (hk:P.underlying k=some (.int q)):oh P k (pE r) where
 key:=IQ hk (by
  rintro _ _ ⟨a,rfl⟩ ⟨b,rfl⟩
  refine ⟨decide (a=b),by simp [DU]; rfl,?_⟩
  rw [decide_eq_true_iff]
  exact ⟨fun h=>by rw [h],fun h=>by cases h; rfl⟩) (by rintro em w _ ⟨a,rfl⟩; exact Qr (n:=9999) hk w)
 stays w v hv:=by obtain ⟨a,rfl⟩:=hv; simp [DS,MF]
def du (h:Array Obj) (b:Nat) (isK:Value→Prop) (f:Value→Option Value):Prop :=
 ∃ kvs,qY h b kvs∧(∀ p∈kvs,isK p.1)∧(kvs.map mO).Nodup∧∀ k v,f k=some v↔(k,v)∈kvs
theorem du.md {F:Nat→Prop} {w w':World} {b:Nat} {isK:Value→Prop} {f:Value→Option Value} (h:du w.heap b isK f) (hm:Md F w w') (a:¬F b):du w'.heap b isK f:=
 let ⟨kvs,h1,h2⟩:=h; ⟨kvs,h1.md hm a,h2⟩
theorem du.wk {w w':World} {b:Nat} {isK:Value→Prop} {f:Value→Option Value} (h:du w.heap b isK f) (hm:Wk w w'):du w'.heap b isK f:=h.md hm id
theorem du.nil {h:Array Obj} {b:Nat} {isK:Value→Prop} {c:Nat} (hm:h[b]? =some (.map #[] c)):du h b isK fun _=>none:=
 ⟨[],⟨_,_,hm,rfl⟩,fun p hp=>(by simp at hp),(by simp),fun k v=>by simp⟩
theorem du.isMap {h:Array Obj} {b:Nat} {isK:Value→Prop} {f:Value→Option Value} (hm:du h b isK f):∃ es c,h[b]? =some (.map es c):=let ⟨_,⟨es,c,h1,_⟩,_⟩:=hm; ⟨es,c,h1⟩
theorem du.pF {h:Array Obj} {b:Nat} {isK:Value→Prop} {f:Value→Option Value} (hm:du h b isK f) {cur:Array Value} {e:TypeId} {z:Nat×Nat} :h[b]?≠some (.cells cur e z):=by
 obtain ⟨es,c,h1⟩:=hm.isMap; rw [h1]; intro h; cases h
noncomputable def bV (f:Value→Option Value) (k v:Value):Value→Option Value:=fun q=>if q=k then some v else f q
theorem vd (f:Value→Option Value) (k v:Value):bV f k v k=some v:=if_pos rfl
theorem tj {f:Value→Option Value} {k v q:Value} (h:q≠k):bV f k v q=f q:=if_neg h
section
variable {P:Program} {N:Fm} {σ:Nat→Value} {w:World} {dst:Option Nat} {ty:TypeId} {pos :String} {af:Array Edge} {g:Option (Nat×Bool)} {x y z:Operand} {K:(Nat→Value)→World→Prop}
variable {t k e:TypeId} {isK:Value→Prop} {b:Nat} {f:Value→Option Value} {kx v zv:Value}
theorem I4 {ok:Bool} (q:P.underlying t=some (.map k e)) (E:zeroV P e=some zv) (i:oh P k isK) (hm:du w.heap b isK f) (A:ev N σ x= .map (some b)) (C:ev N σ y=kx) (hi:isK kx):
 (execOp (ev N σ) ⟨dst,.lookup t x y ok,ty,pos,af,g⟩).run P w= .ok (.value (if ok then .tuple #[(f kx).getD zv,.bool (f kx).isSome] else (f kx).getD zv)) w:=by
 obtain ⟨kvs,h1,h2,h3,h4⟩:=hm
 cases hf:f kx with
 | none=>exact Vi q E i.key h1 h2 A C hi fun v a=>by rw [← h4] at a; rw [hf] at a; cases a
 | some v=>exact Vh q i.key h1 h2 A C hi h3<|(h4 kx v).1 hf
theorem oD (i:P.underlying t=some (.map k e)) (E:zeroV P e=some zv) (a:oh P k isK) (hm:du w.heap b isK f) (A:ev N σ x= .map (some b)) (C:ev N σ y=kx) (hi:isK kx) (q:(f kx).getD zv=v):
 (execOp (ev N σ) ⟨dst,.lookup t x y false,ty,pos,af,g⟩).run P w= .ok (.value v) w:=by
 rw [I4 i E a hm A C hi,q]; rfl
theorem I5 {ob:Bool} (q:P.underlying t=some (.map k e)) (G:zeroV P e=some zv) (a:oh P k isK) (hm:du w.heap b isK f) (C:ev N σ x= .map (some b)) (E:ev N σ y=kx) (hi:isK kx) (A:(f kx).getD zv=v) (i:(f kx).isSome=ob):
 (execOp (ev N σ) ⟨dst,.lookup t x y true,ty,pos,af,g⟩).run P w= .ok (.value<|.tuple #[v,.bool ob]) w:=by
 rw [I4 q G a hm C E hi,A,i]; rfl
theorem LG (ae:P.underlying t=some (.map k e)) (M:oh P k isK) (hm:du w.heap b isK f) (hi:isK kx):
 ∃ w',(DT t (.map<|some b) kx v).run P w= .ok () w'∧Md (fun j=>j=b) w w'∧du w'.heap b isK (bV f kx v):=by
 obtain ⟨kvs,⟨es,c,J,he⟩,h2,h3,h4⟩:=hm
 have V:=(cQ.1 J).1
 rcases M.key.find w kx es.toList hi (Bf he h2) with ⟨h1,an⟩ | ⟨j,U,h1,E,h5⟩
 · have ac:∀ u,(kx,u)∉kvs:=fun u hu=>by
    rw [← he] at hu
    obtain ⟨ag,ak,ah⟩:=oT.1 hu
    cases ah
    exact an ag ak aa
   refine ⟨{w with heap:=w.heap.setIfInBounds b<|.map (es.push {key:=kx,val:=v,born:=c})<|c+1},by simp [DT,eC ae,run_getObj_map J,M.key.check _ w kx hi,h1,setObj,zp,J],⟨aa,aa,by simp,fun i _ G=>by simp only; rw [Mf (fun e=>G e.symm)]⟩,kvs++ [(kx,v)],⟨_,_,by simp only; rw [Mg V],by simp [he]⟩,?_,?_,?_⟩
   · intro p hp
     rcases jz.1 hp with hp | hp
     · exact h2 p hp
     · rw [j4.1 hp]; exact hi
   · rw [iq,Ek]
     refine ⟨h3,by simp,?_⟩
     intro a ai ap Y aj
     simp at Y
     subst aj Y
     obtain ⟨p,hp,ao⟩:=oT.1 ai
     exact ac p.2<|by rw [← ao]; exact hp
   · intro q u
     unfold bV
     rw [jz,j4]
     by_cases C:q=kx
     · subst C
       rw [if_pos rfl]
       constructor
       · intro h; cases h; exact .inr rfl
       · rintro (h | h)
         · exact absurd h<|ac u
         · cases h; rfl
     · rw [if_neg C,h4]
       constructor
       · exact .inl
       · rintro (h | h)
         · exact h
         · cases h; exact absurd rfl C
 · have aq:j < es.size:=by have :=(fJ.1 E).1; simpa using this
   have Z:es[j]? =some U:=by simpa using E
   refine ⟨{w with heap:=w.heap.setIfInBounds b<|.map (es.modify j fun e=> {e with key:=kx,val:=v}) c},?_,⟨aa,aa,by simp,fun i _ G=>by simp only; rw [Mf (fun e=>G e.symm)]⟩,kvs.set j (kx,v),⟨_,_,by simp only; rw [Mg V],?_⟩,?_,?_,?_⟩
   · have hs:=M.stays w kx hi
     simp [DT,eC ae,run_getObj_map J,M.key.check _ w kx hi,h1,Z,h5,hs,setObj,zp,J]
   · rw [← he]
     apply pW
     intro i
     simp only [Array.toList_modify,im,List.getElem?_modify,kW,fK]
     by_cases I:j=i
     · subst I; rw [E]; simp; have :=(fJ.1 E).1; simpa using this
     · simp [I]
   · intro p hp
     rcases Ej hp with hp | hp
     · exact h2 p hp
     · rw [hp]; exact hi
   · have :(kvs.set j (kx,v)).map mO=kvs.map mO:=by
      apply pW
      intro i
      simp only [im,kW]
      by_cases I:j=i
      · subst I
        rw [← he]; simp only [im,E,fK]
        have :=(fJ.1 E).1
        simp [this,h5]
        simpa using this
      · simp [I]
     rw [this]; exact h3
   · intro q u
     have O:kvs[j]? =some (kx,U.val):=by rw [← he]; simp [E,h5,Z]
     have ab:=(fJ.1 O).1
     have am:(kx,v)∈kvs.set j (kx,v):=iP (i:=j)<|by rw [kW,if_pos rfl,if_pos ab]
     unfold bV
     by_cases C:q=kx
     · subst C
       rw [if_pos rfl]
       constructor
       · intro h; cases h; exact am
       · intro h
         obtain ⟨i,A⟩:=vZ h
         rw [kW] at A
         split at A
         · rename_i al
           subst al
           cases A; rfl
         · rename_i G
           exfalso
           exact G<|(List.getElem?_inj (i:=j) (j:=i) (by simpa using ab) h3).1<|by simp [O,A]
     · rw [if_neg C,h4]
       constructor
       · intro h
         obtain ⟨i,A⟩:=vZ h
         have G:j≠i:=by rintro rfl; rw [O] at A; cases A; exact C rfl
         exact iP (i:=i)<|by rw [kW,if_neg G]; exact A
       · intro h
         rcases Ej h with h | h
         · exact h
         · cases h; exact absurd rfl C
theorem tA (q:P.underlying t=some (.map k e)) (a:oh P k isK) (hm:du w.heap b isK f) (A:ev N σ x= .map (some b)) (C:ev N σ y=kx) (E:ev N σ z=v) (hi:isK kx)
 (G:∀ w',Md (fun j=>j=b) w w'→du w'.heap b isK (bV f kx v)→K σ w'):dR P N ⟨none,.mapUpdate t x y z,ty,pos,af,g⟩ σ w K:=by
 obtain ⟨w',h1,h2,h3⟩:=LG (v:=v) q a hm hi
 have i:(execOp (ev N σ) ⟨none,.mapUpdate t x y z,ty,pos,af,g⟩).run P w= .ok .skip w':=by
  simp [execOp,A,C,E,h1]
 unfold dR jZ
 rw [hU,i]
 exact ⟨σ,aa,G w' h2 h3⟩
theorem mx (q:P.underlying t=some (.map k e)) (a:oh P k isK) (hm:du w.heap b isK f) (A:ev N σ x= .map (some b)) (C:ev N σ y=kx) (E:ev N σ z=v) (hi:isK kx)
 (G:∀ w',Md (fun j=>j=b) w w'→du w'.heap b isK (bV f kx v)→K σ w'):dR P N ⟨none,.insert t x y z,ty,pos,af,g⟩ σ w K:=by
 obtain ⟨w',h1,h2,h3⟩:=LG (v:=v) q a hm hi
 have i:(execOp (ev N σ) ⟨none,.insert t x y z,ty,pos,af,g⟩).run P w= .ok .skip w':=by
  simp [execOp,A,C,E,h1]
 unfold dR jZ
 rw [hU,i]
 exact ⟨σ,aa,G w' h2 h3⟩
end
end Go.Hb
end
section
namespace Go.Hb
section
variable {P:Program} {N:Fm} {σ:Nat→Value} {w:World} {fn:Func} {R:Value→World→Prop}
theorem Vo {t b off :Nat} {v:Value} (hu:dz P t=some none) (a:Hb.aQ w.heap b off =some v):(loadVar t ⟨b,off,none⟩).run P w= .ok v w:=by
 have i:w.cell? ⟨b,off,none⟩=some v:=by rw [nz]; exact a
 unfold dz at hu
 cases hd:P.underlying t with
 | none=>rw [hd] at hu; cases hu
 | some d=>
   rw [hd] at hu
   cases d <;> first
    | (simp only [oY] at hu; obtain ⟨_,_,h⟩:=hu; cases h; done)
    | simp [loadVar,isAgg,eC hd,run_load,i]
theorem Vp {t n b off :Nat} {cs:List Value} (hu:dz P t=some (some n)) (C:cs.length=n) (q:∀ j,j < n→Hb.aQ w.heap b (off+j)=cs[j]?):(loadVar t ⟨b,off,none⟩).run P w= .ok (.agg cs.toArray) w:=by
 have A:(loadCells ⟨b,off,none⟩ n).run P w= .ok cs.toArray w:=by
  subst C
  refine run_loadCells_list (P:=P) w ⟨b,off,none⟩ cs fun j v a=> ?_
  rw [ml,nz]
  exact (q j (fJ.1 a).1).trans a
 unfold dz at hu
 cases hd:P.underlying t with
 | none=>rw [hd] at hu; cases hu
 | some d=>
   rw [hd] at hu
   cases hi:P.info? t with
   | none=>simp [MK,hi] at hd
   | some i=>
     rw [hi] at hu
     cases d <;> first
      | (cases hu; done)
      | (simp only [mg,fQ] at hu; subst hu
         simp [loadVar,isAgg,eC hd,sizeOf,jg hi,A])
def mQ (P:Program) (N:Fm) (σ:Nat→Value) (w:World):ResultVar→Value→Prop
 | .tmp t,v=>ev N σ (.tmp t)=v
 | .cell a t,v=> ∃ ad,ev N σ (.tmp a)= .pointer (some ad)∧(loadVar t ad).run P w= .ok v w
theorem ee {t:Tmp} :mQ P N σ w (.tmp t) (ev N σ<|.tmp t):=rfl
theorem rJ {a t b off :Nat} {v:Value} (q:ev N σ (.tmp a)= .pointer (some ⟨b,off,none⟩)) (hu:dz P t=some none) (i:Hb.aQ w.heap b off =some v):mQ P N σ w (.cell a t) v:=⟨_,q,Vo hu i⟩
theorem dP {a t n b off :Nat} {cs:List Value} (A:ev N σ (.tmp a)= .pointer (some ⟨b,off,none⟩)) (hu:dz P t=some (some n)) (q:cs.length=n) (i:∀ j,j < n→Hb.aQ w.heap b (off+j)=cs[j]?):mQ P N σ w (.cell a t) (.agg cs.toArray):=⟨_,A,Vp hu q i⟩
def oH (tmps:Array Value):ResultVar→Sem Value
 | .tmp t=>pure<|tmps.getD t undef
 | .cell a t=>do loadVar t (← asAddr (tmps.getD a undef))
theorem mD {r:ResultVar} {v:Value} (h:mQ P N σ w r v):(oH (act N σ).tmps r).run P w= .ok v w:=by
 cases r with
 | tmp t=>
   show zp P (pure<|(act N σ).tmps.getD t undef) w=_
   rw [mI]; simp only [mQ] at h; rw [h]; rfl
 | cell a t=>
   obtain ⟨ad,h1,h2⟩:=h
   show zp P (do loadVar t (← asAddr ((act N σ).tmps.getD a undef))) w=_
   rw [mI,h1]
   simp [asAddr,h2]
theorem Kn {tmps:Array Value} {r:ResultVar} {v:Value} (h:fn.results= #[r]) (h1:(oH tmps r).run P w= .ok v w):(results fn tmps).run P w= .ok v w:=by
 have a:(results fn tmps)=(do let vs ← #[r].mapM (oH tmps); pure (if h:vs.size=1 then vs[0] else .tuple vs)):=by
  unfold results; rw [h]; rfl
 rw [a]; simp [wi,h1]
theorem yI {tmps:Array Value} {r s:ResultVar} {v u:Value} (h:fn.results= #[r,s]) (h1:(oH tmps r).run P w= .ok v w) (h2:(oH tmps s).run P w= .ok u w):(results fn tmps).run P w= .ok (.tuple #[v,u]) w:=by
 have a:(results fn tmps)=(do let vs ← #[r,s].mapM (oH tmps); pure (if h:vs.size=1 then vs[0] else .tuple vs)):=by
  unfold results; rw [h]; rfl
 rw [a]; simp [wi,h1,h2]
theorem Xd {tmps:Array Value} {r s q:ResultVar} {v u z:Value} (h:fn.results= #[r,s,q]) (h1:(oH tmps r).run P w= .ok v w) (h2:(oH tmps s).run P w= .ok u w) (h3:(oH tmps q).run P w= .ok z w):(results fn tmps).run P w= .ok (.tuple #[v,u,z]) w:=by
 have a:(results fn tmps)=(do let vs ← #[r,s,q].mapM (oH tmps); pure (if h:vs.size=1 then vs[0] else .tuple vs)):=by
  unfold results; rw [h]; rfl
 rw [a]; simp [wi,h1,h2,h3]
theorem uB {r:ResultVar} {v:Value} (h:fn.results= #[r]) (h1:mQ P N σ w r v) (a:R v w):fin P fn N R .ret σ w:=⟨v,Kn h (mD h1),a⟩
theorem eA {r s:ResultVar} {v u:Value} (h:fn.results= #[r,s]) (h1:mQ P N σ w r v) (h2:mQ P N σ w s u) (a:R (.tuple #[v,u]) w):fin P fn N R .ret σ w:=⟨_,yI h (mD h1) (mD h2),a⟩
theorem Hc {r s q:ResultVar} {v u z:Value} (h:fn.results= #[r,s,q]) (h1:mQ P N σ w r v) (h2:mQ P N σ w s u) (h3:mQ P N σ w q z) (a:R (.tuple #[v,u,z]) w):fin P fn N R .ret σ w:=⟨_,Xd h (mD h1) (mD h2) (mD h3),a⟩
end
end Go.Hb
end
section
namespace Go.Hb
def nV (P:Program) (N:Fm) (c:Code) (B:Exit→Act→World→Prop) (σ:Nat→Value) (w:World):Prop :=c.wpIn (fe N.r) 0 P B (act N σ) w
def qb (N:Fm) (B:Exit→Act→World→Prop):Exit→(Nat→Value)→World→Prop :=fun e σ w=>B e (act N σ) w
section
variable {P:Program} {N:Fm} {B:Exit→Act→World→Prop} {σ:Nat→Value} {w:World}
theorem dO {x y:Code} (h:nV P N x (Exit.then (y.wpIn (fe N.r) 0 P B) B) σ w):nV P N (.seq x y) B σ w:=wpIn_seq h
theorem dJ {y:Code} (h:nV P N y B σ w):qb N (Exit.then (y.wpIn (fe N.r) 0 P B) B) .normal σ w:=h
theorem prt {y:Act→World→Prop} (h:qb N B .ret σ w):qb N (Exit.then y B) .ret σ w:=h
theorem pJ (h:qb N B .ret σ w):nV P N .ret B σ w:=wpIn_ret h
theorem ed {c:Code} (h:dQ P N c (qb N B) σ w):nV P N c B σ w:=by
 unfold dQ at h
 refine wpIn_mono h ?_
 intro e a w i
 cases e with
 | panic c=>obtain ⟨σ,rfl,q⟩:=i; exact q σ fun _ _=>rfl
 | outgrown=>exact i.elim
 | _=>obtain ⟨σ,rfl,q⟩:=i; exact q
end
theorem yM (fn:Func) (args:List Value) (F:List Nat) (hn:oU args.length fn.ntmps=true):({tmps:=args.toArray++tJ (fn.ntmps - args.toArray.size) undef,defers:= []} :Act)=act ⟨fn.ntmps,[],F,none⟩ (mG args):=by
 have a:args.length≤fn.ntmps:=by simpa using hn
 refine wO aa fun i=> ?_
 rw [o6]
 simp only [mG,cV,oa]
 by_cases h1:i < args.length
 · rw [Array.getElem?_append_left (by simpa using h1),if_pos ab]
   simp [h1]
 · rw [Array.getElem?_append_right (by simpa using h1)]
   simp only [oa,Array.getElem?_replicate]
   by_cases h2:i < fn.ntmps
   · rw [if_pos ab,if_pos h2,List.getElem?_eq_none ab]; rfl
   · rw [if_neg ab,if_neg h2]
abbrev Bm (P:Program) (fn:Func) (R:Value→World→Prop):Exit→Act→World→Prop :=bodyPostM jj 0 P fn (fun e w'=> ∃ v,e= .returned v∧R v w')
theorem uz {P:Program} {f:FuncId} {N:Nat} {fn:Func} {c:Code} {args:List Value} {w:World} {R:Value→World→Prop} (F:List Nat) (q:P.funcs[f]? =some fn) (i:fn.body=some c)
 (a:fn.ntmps=N) (hn:oU args.length N=true) (h:nV P ⟨N,[],F,none⟩ c (Bm P fn R) (mG args) w):bo P f args.toArray w R:=by
 subst a
 refine callsIn_wide.1<|callsIn_of_wp_marks (F:=jj) (n:=0) q i trivial ?_
 rw [yM fn args F hn]
 exact h
section
variable {P:Program} {n:Nat} {F:List Nat} {σ:Nat→Value} {w:World} {fn:Func} {R:Value→World→Prop}
theorem IY {e:Exit} (he:e= .ret∨e= .normal) {v:Value} (i:(results fn (act ⟨n,[],F,none⟩ σ).tmps).run P w= .ok v w) (a:R v w):qb ⟨n,[],F,none⟩ (Bm P fn R) e σ w:=by
 rcases he with rfl | rfl <;> exact ⟨v,i,v,rfl,a⟩
theorem SH {t:Nat} {v:Value} (h:fn.results= #[.tmp t]) (i:ev ⟨n,[],F,none⟩ σ (.tmp t)=v) (a:R v w):qb ⟨n,[],F,none⟩ (Bm P fn R) .ret σ w:=
 IY (.inl rfl) (by rw [results_tmp h,mI,i]) a
theorem G9 {t u:Nat} {v a:Value} (h:fn.results= #[.tmp t,.tmp u]) (q:ev ⟨n,[],F,none⟩ σ (.tmp t)=v) (hu:ev ⟨n,[],F,none⟩ σ (.tmp u)=a) (i:R (.tuple #[v,a]) w):qb ⟨n,[],F,none⟩ (Bm P fn R) .ret σ w:=
 IY (.inl rfl) (by rw [results_tmp2 h,mI,mI,q,hu]) i
theorem IZ {D:Nat} {v:Value} (a:w.heap[D]? =some (.deferred<|some [])) (q:∀ w',(results fn (act ⟨n,[{target:= .collected D,args:= #[]}],F,none⟩ σ).tmps).run P w'= .ok v w') (i:R v (w.putObj D<|.deferred none)):
 qb ⟨n,[{target:= .collected D,args:= #[]}],F,none⟩ (Bm P fn R) .ret σ w:=
 ⟨Mz,.inl ⟨_,_,rfl,run_takeDeferred a,⟨v,q _,v,rfl,i⟩⟩⟩
theorem G8 {D t:Nat} {v:Value} (h:fn.results= #[.tmp t]) (q:ev ⟨n,[{target:= .collected D,args:= #[]}],F,none⟩ σ (.tmp t)=v) (a:w.heap[D]? =some (.deferred<|some [])) (i:R v (w.putObj D<|.deferred none)):
 qb ⟨n,[{target:= .collected D,args:= #[]}],F,none⟩ (Bm P fn R) .ret σ w:=
 IZ a (fun w'=>by rw [results_tmp h,mI,q]) i
theorem Ha {D t u:Nat} {v a:Value} (h:fn.results= #[.tmp t,.tmp u]) (A:ev ⟨n,[{target:= .collected D,args:= #[]}],F,none⟩ σ (.tmp t)=v) (hu:ev ⟨n,[{target:= .collected D,args:= #[]}],F,none⟩ σ (.tmp u)=a)
 (i:w.heap[D]? =some (.deferred<|some [])) (q:R (.tuple #[v,a]) (w.putObj D<|.deferred none)):qb ⟨n,[{target:= .collected D,args:= #[]}],F,none⟩ (Bm P fn R) .ret σ w:=
 IZ i (fun w'=>by rw [results_tmp2 h,mI,mI,A,hu]) q
end
theorem dE {w:World} {B t size n pp a:Nat} {v:Value} {xs:List Value} {cs:Array Value} {z:Nat×Nat} (h:w.ownsRow B t size v n xs) (hp:w.heap[pp]? =some (.cells cs a z)) (q:t≠a):v.ownBlock≠some pp:=by
 intro hk
 rcases h.2 with ⟨h1,_⟩ | ⟨g,cap,cur,h1,_,i,_⟩
 · rw [h1] at hk; simp [iU] at hk
 · rw [h1] at hk
   simp only [iU,fQ] at hk
   subst hk
   rw [i] at hp
   simp only [fQ,vP] at hp
   exact q hp.2.1
section
variable {P:Program} {N:Fm} {σ:Nat→Value} {w:World} {dst:Option Nat} {ty:TypeId} {pos :String} {af:Array Edge} {g:Option (Nat×Bool)} {x:Operand} {K:(Nat→Value)→World→Prop}
theorem xc {e:TypeId} {v:Value} (a:ev N σ x=v) (h1:v.oneCell'=true) (k:∀ b w',b=w.heap.size→Nw w w'→w'.heap[b]? =some (.cells [v].toArray e (0,0))→K (iN σ dst<|.pointer<|some ⟨b,0,none⟩) w'):
 dR P N ⟨dst,.box e x,ty,pos,af,g⟩ σ w K:=by
 refine oL (v:=fun b=> .pointer<|some ⟨b,0,none⟩) (ob:= .cells [v].toArray e (0,0)) ?_ k
 have :=qB h1
 simp [execOp,Instr.box,a,this,newVar,newRow]
end
theorem lh (w:World) (k:Nat) (o:Obj):Md (fun j=>j=k) w (w.putObj k o):=
 ⟨rfl,rfl,by simp [MS],fun j _ a=>n7 a⟩
def gk (w w':World):Prop := ∀ (k:Nat) (o:Obj),w.heap[k]? =some o→(∀ cur e z,o≠.cells cur e z)→w'.heap[k]? =some o
theorem gk.trans {a b c:World} (h:gk a b) (i:gk b c):gk a c:=fun k o q hn=>i k o (h k o q hn) hn
theorem gk.md {F:Nat→Prop} {w w':World} (hm:Md F w w') (i:∀ k,F k→∃ cur e z,w.heap[k]? =some (.cells cur e z)):gk w w':=fun k o a hn=>by
 rw [hm.cz k (cQ.1 a).1 (fun hk=>by obtain ⟨c,e,z,h⟩:=i k hk; rw [a] at h; exact hn _ _ _<|qW h)]; exact a
theorem gk.wk {w w':World} (hm:Wk w w'):gk w w':=gk.md hm fun _ h=>h.elim
theorem pI {w:World} {B e size n:Nat} {v:Value} {xs:List Value} (h:w.ownsRow B e size v n xs):∀ k,v.ownBlock=some k→∃ cur e z,w.heap[k]? =some (.cells cur e z):=by
 intro k hk
 rcases h.2 with ⟨rfl,_⟩ | ⟨g,cap,i,rfl,_,a,_⟩
 · simp [iU] at hk
 · simp only [iU,fQ] at hk; subst hk; exact ⟨_,_,_,a⟩
def NN {α:Type} (B:Nat) (a:List α→World→Prop):Prop := ∀ pre W W' (F:Nat→Prop),a pre W→Md F W W'→(∀ k,F k→B≤k∧∀ cur e z,W.heap[k]?≠some (.cells cur e z))→a pre W'
section
variable {F:Nat→Prop} {W W':World} {B:Nat}
theorem yX {b e:Nat} {cs:Array Value} {z:Nat×Nat} (h:W.heap[b]? =some (.cells cs e z)) (hm:Md F W W') (a:∀ k,F k→B≤k∧∀ cur e z,W.heap[k]?≠some (.cells cur e z)):W'.heap[b]? =some (.cells cs e z):=by
 rw [hm.cz b (cQ.1 h).1 (fun hk=>(a b hk).2 _ _ _ h)]; exact h
theorem KX {B' e size n:Nat} {v:Value} {xs:List Value} (h:W.ownsRow B' e size v n xs) (hm:Md F W W') (a:∀ k,F k→B≤k∧∀ cur e z,W.heap[k]?≠some (.cells cur e z)):W'.ownsRow B' e size v n xs:=
 cX h hm fun k hk i=>by obtain ⟨c,e,z,h1⟩:=pI h k hk; exact (a k i).2 _ _ _ h1
theorem KY {w:World} (h:Wk w W) (hm:Md F W W') (q:w.heap.size≤B) (a:∀ k,F k→B≤k∧∀ cur e z,W.heap[k]?≠some (.cells cur e z)):Wk w W':=Md.trans' h hm fun k hk i=>by have :=(a k i).1; omega
end
def Er {α:Type} (P:Program) (E:Nat) (G:Array Value) (C:α→Array Value) (xs:List α) (A:World→Prop):Prop :=
 ∀ (l:Nat) (a:List α→World→Prop) (W:World),a [] W→(∀ pre W,a pre W→A W)→(∀ pre i q,a pre i→Wk i q→a pre q)→
   (∀ pre x rest i,xs=pre++x::rest→a pre i→YieldAt jj 0 P l (C x) i fun e W'=>e= .returned (.bool true)∧a (pre++ [x]) W')→
   Calls P E (#[.func (.yield l) #[] #[]]++G) W fun e W'=>(∃ v,e= .returned v)∧a xs W'
def W5 (R:World→Prop):Exit→(Nat→Value)→World→Prop
 | .normal,_,w=>R w
 | _,_,_=>False
theorem Eu (N:Fm):∀ (l:List (Tmp×Value)) (σ:Nat→Value),l.foldl (fun t p=>t.setIfInBounds p.1 p.2) (act N σ).tmps=(act N<|l.foldl (fun s p=>dB s p.1 p.2) σ).tmps:=by
 intro l
 induction l with
 | nil=>intro σ; rfl
 | cons p l a=>
   intro σ
   rw [r6,r6,← a]
   congr 1
   have :=congrArg Act.tmps<|jH N σ (some p.1) p.2
   exact this
theorem Kl {α:Type} {P:Program} {id n:Nat} {g:Operand} {ps:Array Tmp} {Z body:Code} {U:List Nat} {σ:Nat→Value} {w:World} {B:Exit→Act→World→Prop} {V:Nat} {Y:Array Value}
 (J:α→Array Value) (xs:List α) (aj:World→Prop) (i:List α→World→Prop) (aD:ev ⟨n,[],U,none⟩ σ g= .func (.func V) #[] Y) (aA:bm P V) (aK:∀ x,(J x).size=ps.size)
 (aF:Er P V Y J xs aj) (au:i [] w) (aB:∀ pre W,i pre W→aj W) (ac:NN w.heap.size i) (ap:α→Nat→Value)
 (ay:∀ (l:Nat) (x:α) (W:World) (K:(Nat→Value)→World→Prop),K (ap x) W→dQ P ⟨n,[],[],some l⟩ Z (lM K fun _ _ _=>False) ((ps.toList.zip (J x).toList).foldl (fun s p=>dB s p.1 p.2) σ) W)
 (az:∀ (l:Nat) (pre:List α) (x:α) (rest:List α) (W:World),xs=pre++x::rest→i pre W→dQ P ⟨n,[],[],some l⟩ body (W5 fun W'=>gk W W'∧i (pre++ [x]) W') (ap x) W)
 (hd:∀ (D:Nat) (W:World),w.heap.size≤D→i xs W→W.heap[D]? =some (.deferred<|some [])→qb ⟨n,[{target:= .collected D,args:= #[]}],U,none⟩ B .normal σ W):
 nV P ⟨n,[],U,none⟩ (.block id<|.rangeFunc g ps Z body) B σ w:=by
 refine wpIn_block<|wpIn_rangeFunc ?_
 intro fn _
 obtain ⟨rc,O⟩:∃ rc:LoopState→Option Code→Loop,rc=fun st aN=> {state:=st,pending:=aN,fn,tmps:=(act ⟨n,[],U,none⟩ σ).tmps,params:=ps,assign:=Z,body,defers:=w.heap.size} :=⟨_,rfl⟩
 obtain ⟨q,ae⟩:∃ q,(w.alloc<|.deferred<|some []).alloc (.loop<|rc .ready none)=q:=⟨_,rfl⟩
 have ax:q.heap[w.heap.size+1]? =some (.loop<|rc .ready none):=by
  rw [← ae]; have :=zu (w.alloc<|.deferred<|some []) (.loop<|rc .ready none); rwa [MT] at this
 have aw:q.heap[w.heap.size]? =some (.deferred<|some []):=by
  rw [← ae]; exact (Below.heap_alloc _ _ _<|by simp).trans<|zu w _
 have hn:∀ (W:World) (o:Obj),Wk W (W.alloc o):=fun W o=>(CC W o).md
 have av:i [] q:=by rw [← ae]; exact ac _ _ _ _ (ac _ _ _ _ au (hn _ _) fun _ h=>h.elim) (hn _ _) fun _ h=>h.elim
 have aC:(act ⟨n,[],U,none⟩ σ).eval g= .func (.func V) #[] Y:=by rw [hU]; exact aD
 refine ⟨w.heap.size+1,[{target:= .collected w.heap.size,args:= #[]}],q,{target:= .fn (.func V) Y,args:= #[.func (.yield<|w.heap.size+1) #[] #[]]},q,V,
  #[.func (.yield<|w.heap.size+1) #[] #[]]++Y,q,?_,?_,fun _ _=>trivial,?_,fun ar=>(by cases ar),?_⟩
 · rw [← ae,O]; exact run_enterLoop_outer _ _ _ _ _
 · simp only [resolve,aC]
   simp [go_sem]
 · have :=aA (#[.func (.yield<|w.heap.size+1) #[] #[]]++Y) q
   simp [invoke,go_sem,this]
 · have ah:∀ (pre:List α) (W:World) (o ai:Obj),i pre W→W.heap[w.heap.size+1]? =some o→(∀ cur e z,o≠.cells cur e z)→i pre (W.putObj (w.heap.size+1) ai):=fun pre W o ai h1 h2 h3=>
    ac _ _ _ _ h1 (lh W _ ai) fun k hk=>⟨ab,fun cur e z h4=>by subst hk; rw [h2] at h4; exact h3 _ _ _<|qW h4⟩
   refine callsIn_wide.2 (lN (aF (w.heap.size+1)
    (fun pre W=>i pre W∧W.heap[w.heap.size+1]? =some (.loop<|rc .ready none)∧W.heap[w.heap.size]? =some (.deferred<|some []))
    q ⟨av,ax,aw⟩ (fun pre W h=>aB pre W h.1)
    (fun pre A C h hm=>⟨ac _ _ _ _ h.1 hm (fun _ h=>h.elim),(hm.cz _ (cQ.1 h.2.1).1 fun h=>h).trans h.2.1,(hm.cz _ (cQ.1 h.2.2).1 fun h=>h).trans h.2.2⟩) ?_) ?_)
   · rintro pre x rest W aM ⟨hi,M,hk⟩
     have aJ:w.heap.size+1 < W.heap.size:=(cQ.1 M).1
     have an:=run_yield (P:=P) (args:=J x) M<|by rw [O]; exact aK x
     rw [O] at an
     refine ⟨fn,_,Z,body,an,roundIn_of_wpIn (F:=jj) trivial ?_⟩
     have aL:((ps.zip<|J x).foldl (fun tmps (p:Tmp×Value)=>tmps.setIfInBounds p.1 p.2) (act ⟨n,[],U,none⟩ σ).tmps)=(act ⟨n,[],[],some<|w.heap.size+1⟩<|(ps.toList.zip (J x).toList).foldl (fun s p=>dB s p.1 p.2) σ).tmps:=by
      rw [← Me,Mi]
      exact Eu ⟨n,[],[],some<|w.heap.size+1⟩ _ σ
     have h1:=ay (w.heap.size+1) x W (fun I W'=> ∃ ao,(MB<|w.heap.size+1).run P W'= .ok () ao∧
      body.wpIn (jj.inRound<|w.heap.size+1) 0 P (roundPost P (w.heap.size+1) fun e W'=>e= .returned (.bool true)∧i (pre++ [x]) W'∧W'.heap[w.heap.size+1]? =some (.loop<|rc .ready none)∧W'.heap[w.heap.size]? =some (.deferred<|some [])) (act ⟨n,[],[],some<|w.heap.size+1⟩ I) ao) ?_
     · unfold dQ at h1
       have aq:({tmps:=(ps.zip<|J x).foldl (fun tmps (p:Tmp×Value)=>tmps.setIfInBounds p.1 p.2) (act ⟨n,[],U,none⟩ σ).tmps,defers:= []} :Act)=act ⟨n,[],[],some<|w.heap.size+1⟩ ((ps.toList.zip (J x).toList).foldl (fun s p=>dB s p.1 p.2) σ):=by rw [aL]; rfl
       rw [aq]
       refine wpIn_mono h1 ?_
       intro e a w' E
       cases e with
       | normal=>obtain ⟨I,rfl,G⟩:=E; exact G
       | panic c=>obtain ⟨I,rfl,G⟩:=E; exact G I fun _ _=>rfl
       | outgrown=>exact E.elim
       | _=>obtain ⟨I,rfl,G⟩:=E; exact G
     refine ⟨_,run_beginRound M (by rw [O]),?_⟩
     have aI:(W.putObj (w.heap.size+1)<|.loop {rc .ready none with state:= .busy}).heap[w.heap.size+1]? =some (.loop {rc .ready none with state:= .busy}):=zw aJ
     have aG:(W.putObj (w.heap.size+1)<|.loop {rc .ready none with state:= .busy}).heap[w.heap.size]? =some (.deferred<|some []):=(n7 ab).trans hk
     have h2:=az (w.heap.size+1) pre x rest _ aM<|ah _ _ _ (.loop {rc .ready none with state:= .busy}) hi M fun _ _ _ h=>by cases h
     unfold dQ at h2
     refine wpIn_mono h2 ?_
     intro e a aP E
     cases e with
     | normal=>
       obtain ⟨I,rfl,ak,aE⟩:=E
       have ag:=ak _ _ aI fun _ _ _ h=>by cases h
       have aH:=ak _ _ aG fun _ _ _ h=>by cases h
       have al:=run_endRound (P:=P) none ag
       rw [O] at al ag ⊢
       exact ⟨_,_,al,aa,ah _ _ _ _ aE ag (fun _ _ _ h=>by cases h),zw (cQ.1 ag).1,(n7 ab).trans aH⟩
     | panic c=>obtain ⟨I,rfl,G⟩:=E; exact (G I fun _ _=>rfl).elim
     | outgrown=>exact E.elim
     | _=>obtain ⟨I,rfl,G⟩:=E; exact G.elim
   · rintro e aO ⟨⟨v,rfl⟩,hi,M,hk⟩
     have am:=run_endLoop (P:=P) M<|by rw [O]; simp
     rw [O] at am
     refine ⟨none,_,am,?_⟩
     rw [O] at M
     exact hd w.heap.size _ (cB _) (ah _ _ _ _ hi M fun _ _ _ h=>by cases h)<|(n7 ab).trans hk
section
variable {P:Program} {N:Fm} {ops:Array Oper} {Q:Exit→(Nat→Value)→World→Prop} {rest:List Oper} {σ:Nat→Value} {w:World} {d':Option Nat} {d:Nat} {op:Op} {ty:TypeId} {pos :String} {af:Array Edge} {v:Value}
def oK (P:Program) (N:Fm) (ops:Array Oper) (Q:Exit→(Nat→Value)→World→Prop) (l:List Oper) (σ:Nat→Value) (w:World):Prop :=wpListIn (fe N.r) 0 P ops (lift N Q) l (act N σ) w
theorem WX {id:Nat} {l:List Oper} (h:oK P N l.toArray Q l σ w):dQ P N (.region id l.toArray false) Q σ w:=by
 unfold dQ; exact wpIn_region_lit h
theorem VL (h:Q .normal σ w):oK P N ops Q [] σ w:=⟨σ,rfl,h⟩
def Cx (o:Op):Bool:=match o with | .defer _=>false | _=>true
theorem VO {o:Op} (h:Cx o=true):∀ c,o≠.defer c:=fun c e=>by subst e; cases h
theorem ey (hn:Cx op=true) (h:dR P N ⟨d',op,ty,pos,af,none⟩ σ w (fun σ w=>oK P N ops Q rest σ w)):oK P N ops Q (⟨d',op,ty,pos,af,none⟩::rest) σ w:=by
 unfold oK wpListIn
 rw [if_pos (jO _ rfl _)]
 refine ⟨fun f _=>xH _ f,?_⟩
 rw [Bj,MJ _ _ _ (VO hn)]
 unfold dR jZ at h
 generalize (execOp (act N σ).eval ⟨d',op,ty,pos,af,none⟩).run P w=x at h ⊢
 cases x with
 | ok n w'=>
   cases n <;> simp only [kV,qO] at h ⊢ <;>
    first
     | (obtain ⟨q,i,hk⟩:=h; rw [i]; exact hk)
     | (refine ⟨fun a=>(by rw [uC] at a; cases a),DQ (Hd h) fun e w'' he=> ?_⟩
        cases e with
        | returned v=>obtain ⟨q,i,hk⟩:=he; simp only; rw [i]; exact hk
        | panicked c=>exact he.elim
        | outgrown=>obtain ⟨_,_,A⟩:=he; exact A.elim)
     | (refine ⟨fun a=>(by rw [uC] at a; cases a),D6 (Bk h) fun v w'' he=> ?_⟩
        obtain ⟨q,i,hk⟩:=he; rw [i]; exact hk)
 | halt x w'=>cases x <;> simp only [kV] at h
theorem py (hn:Cx op=true) (h:(execOp (ev N σ) ⟨some d,op,ty,pos,af,none⟩).run P w= .ok (.value v) w) (k:oK P N ops Q rest (dB σ d v) w):oK P N ops Q (⟨some d,op,ty,pos,af,none⟩::rest) σ w:=
 ey hn (nW h k)
theorem Zc {l:Nat} {fo:Operand} {args:Array Operand} {i:Array TypeId} {L:List Value} {R:World→Prop} (G:ev N σ fo= .func (.yield l) #[] #[]) (C:args.toList.map (ev N σ)=L)
 (J:YieldAt jj 0 P l L.toArray w fun e W'=>e= .returned (.bool true)∧R W') (k:∀ W',R W'→oK P N ops Q rest (dB σ d<|.bool true) W'):
 oK P N ops Q (⟨some d,.call ⟨.value fo,args,i⟩,ty,pos,af,none⟩::rest) σ w:=by
 obtain ⟨fn,tmps,a,b,E,A⟩:=J
 unfold oK wpListIn
 rw [if_pos (jO _ rfl _)]
 refine ⟨fun f _=>xH _ f,?_⟩
 rw [Bj,MJ _ _ _ (fun c e=>by cases e),hU]
 have hm:args.map (ev N σ)=L.toArray:=by rw [← C,← nk]
 have I:(execOp (ev N σ) ⟨some d,.call ⟨.value fo,args,i⟩,ty,pos,af,none⟩).run P w= .ok (.round l fn tmps a b) w:=by
  simp [execOp,resolve,G,qM,invoke,hm,E]
 rw [I]
 simp only [qO]
 refine ⟨fun q=>(by rw [uC] at q; cases q),?_⟩
 have h1:RoundIn (fe N.r) (0 - 1) P l fn tmps a b w fun e W'=>e= .returned (.bool true)∧R W':=by
  cases hr:N.r with
  | none=>exact A
  | some k=>exact A
 refine D4 h1 ?_
 rintro e W' ⟨rfl,hw⟩
 simp only
 rw [jH]
 exact k W' hw
end
end Go.Hb
end
section
namespace Go.Hb
def fC (P:Program) (f:FuncId) (args:Array Value) (w:World) (R:Value→World→Prop) (Pn:List PanicEntry→World→Prop):Prop :=
 Calls P f args w fun e w'=>(∃ v,e= .returned v∧R v w')∨∃ c,e= .panicked c∧Pn c w'
def Hg (P:Program) (fn:Func) (N:Fm) (R:Value→World→Prop) (Pn:List PanicEntry→World→Prop):Exit→(Nat→Value)→World→Prop
 | .normal,σ,w=> ∃ v,(results fn (act N σ).tmps).run P w= .ok v w∧R v w
 | .ret,σ,w=> ∃ v,(results fn (act N σ).tmps).run P w= .ok v w∧R v w
 | .panic c,_,w=>Pn c w
 | _,_,_=>False
theorem jM {P:Program} {fn:Func} {N:Fm} {R:Value→World→Prop} {Pn:List PanicEntry→World→Prop} {e:Exit} {σ:Nat→Value} {w:World} (h:fin P fn N R e σ w):Hg P fn N R Pn e σ w:=by
 cases e <;> first | exact h | exact h.elim
theorem ka {P:Program} {f:FuncId} {N:Nat} {fn:Func} {c:Code} {args:List Value} {w:World} {R:Value→World→Prop} {Pn:List PanicEntry→World→Prop} (I:P.funcs[f]? =some fn) (G:fn.body=some c)
 (E:fn.ntmps=N) (hn:oU args.length N=true) (h:dQ P ⟨N,[],[],none⟩ c (Hg P fn ⟨N,[],[],none⟩ R Pn) (mG args) w):fC P f args.toArray w R Pn:=by
 subst E
 refine calls_of_wp I G ?_
 rw [yM fn args [] hn]
 unfold dQ at h
 refine Mr ?_<|wpIn_wide.1 h
 intro e a w i
 cases e with
 | normal=>obtain ⟨σ,rfl,v,C,A⟩:=i; exact ⟨rfl,v,C,.inl ⟨v,rfl,A⟩⟩
 | ret=>obtain ⟨σ,rfl,v,C,A⟩:=i; exact ⟨rfl,v,C,.inl ⟨v,rfl,A⟩⟩
 | exit id=>obtain ⟨σ,rfl,q⟩:=i; exact q.elim
 | goto l=>obtain ⟨σ,rfl,q⟩:=i; exact q.elim
 | panic c=>obtain ⟨σ,rfl,q⟩:=i; exact ⟨rfl,.inr ⟨c,rfl,q σ fun _ _=>rfl⟩⟩
 | outgrown=>exact i.elim
section
variable {P:Program} {N:Fm} {Q:Exit→(Nat→Value)→World→Prop} {σ:Nat→Value} {w:World} {ops:Array Oper} {rest:List Oper} {dst:Option Nat} {ty:TypeId} {pos :String} {af:Array Edge} {g:Option (Nat×Bool)} {x:Operand}
def oM (P:Program) (N:Fm) (o:Oper) (σ:Nat→Value) (w:World) (K:(Nat→Value)→World→Prop) (Pn:List PanicEntry→World→Prop):Prop :=
 jZ P o (act N σ) w (fun a w=> ∃ σ,a=act N σ∧K σ w) (fun e a w=>match e with | .panic c=>a=act N σ∧Pn c w | _=>False)
theorem zd {o:Oper} {K:(Nat→Value)→World→Prop} {Pn:List PanicEntry→World→Prop} {q:Act→World→Prop} (h:oM P N o σ w K Pn) (hk:∀ σ w,K σ w→q (act N σ) w) (hp:∀ c w',Pn c w'→∀ E,(∀ i∈N.F,E i=σ i)→Q (.panic c) E w'):o.wp P (act N σ) w q (lift N Q):=by
 unfold oM at h
 unfold jZ at*
 generalize (execOp (act N σ).eval o).run P w=r at h ⊢
 have A:∀ a w,(∃ σ,a=act N σ∧K σ w)→q a w:=by rintro a w ⟨σ,rfl,h⟩; exact hk _ _ h
 have C:∀ c (a:Act) w',(a=act N σ∧Pn c w')→lift N Q (.panic c) a w':=by rintro c a w' ⟨rfl,h⟩; exact ⟨σ,rfl,hp c w' h⟩
 cases r with
 | ok n w'=>
   cases n <;> simp only [kV] at h ⊢ <;>
    first
     | exact A _ _ h
     | exact lN h (fun e w'' he=>by
      cases e with
      | returned v=>exact A _ _ he
      | panicked c=>exact C _ _ _ ⟨rfl,he.2⟩
      | outgrown=>obtain ⟨_,_,G⟩:=he; exact G.elim)
     | exact D5 h fun _ _ he=>A _ _ he
 | halt x w'=>cases x <;> simp only [kV] at h ⊢ <;> exact C _ _ _ ⟨rfl,h.2⟩
theorem dS {f:FuncId} {args:Array Operand} {a:Array TypeId} {L:List Value} {R:Value→World→Prop} {Pn:List PanicEntry→World→Prop} {K:(Nat→Value)→World→Prop} (C:bm P f) (E:fC P f L.toArray w R Pn) (i:args.toList.map (ev N σ)=L)
 (k:∀ v w',R v w'→K (iN σ dst v) w'):oM P N ⟨dst,.call ⟨.value (.func f),args,a⟩,ty,pos,af,g⟩ σ w K Pn:=by
 unfold oM jZ
 have hm:args.map (ev N σ)=L.toArray:=by rw [← i,← nk]
 have G:(execOp (ev N σ) ⟨dst,.call ⟨.value (.func f),args,a⟩,ty,pos,af,g⟩).run P w= .ok (.enter f L.toArray) w:=by
  have h2:=C L.toArray w
  simp [execOp,resolve,ev,qM,invoke,hm,h2]
 rw [hU,G]
 simp only [kV]
 refine lN E ?_
 rintro e w' (⟨v,rfl,A⟩ | ⟨c,rfl,q⟩)
 · exact ⟨_,jH ..,k v w' A⟩
 · exact ⟨trivial,q⟩
theorem LX {f:FuncId} {fo:Operand} {first cap:Array Value} {args:Array Operand} {a:Array TypeId} {L:List Value} {R:Value→World→Prop} {Pn:List PanicEntry→World→Prop} {K:(Nat→Value)→World→Prop} (C:bm P f) (G:ev N σ fo= .func (.func f) first cap) (E:fC P f L.toArray w R Pn) (i:first.toList++args.toList.map (ev N σ)++cap.toList=L)
 (k:∀ v w',R v w'→K (iN σ dst v) w'):oM P N ⟨dst,.call ⟨.value fo,args,a⟩,ty,pos,af,g⟩ σ w K Pn:=by
 unfold oM jZ
 have hm:first++args.map (ev N σ)++cap=L.toArray:=by rw [← i]; simp
 have I:(execOp (ev N σ) ⟨dst,.call ⟨.value fo,args,a⟩,ty,pos,af,g⟩).run P w= .ok (.enter f L.toArray) w:=by
  have h2:=C L.toArray w
  simp only [execOp,resolve,G,qM,invoke]
  simp [hm,h2]
 rw [hU,I]
 simp only [kV]
 refine lN E ?_
 rintro e w' (⟨v,rfl,A⟩ | ⟨c,rfl,q⟩)
 · exact ⟨_,jH ..,k v w' A⟩
 · exact ⟨trivial,q⟩
theorem eP {o:Oper} {Pn:List PanicEntry→World→Prop} (q:o.guard=none) (h:oM P N o σ w (fun σ w=>eM P N ops Q rest σ w) Pn) (hp:∀ c w',Pn c w'→∀ a,(∀ i∈N.F,a i=σ i)→Q (.panic c) a w'):eM P N ops Q (o::rest) σ w:=by
 unfold eM wpList
 rw [if_pos (jO o q _)]
 refine .inl<|zd h (fun σ w hk=> ?_) hp
 unfold eM at hk; exact hk
theorem Wu {t:TypeId} {v:Value} (A:ev N σ x= .iface t v) (hp:∀ a,(∀ i∈N.F,a i=σ i)→Q (.panic [{v:= .iface t v,recovered:=false}]) a w):eM P N ops Q (⟨dst,.panic x,ty,pos,af,none⟩::rest) σ w:=by
 unfold eM wpList
 rw [if_pos (jO _ rfl _)]
 refine .inl ?_
 unfold jZ
 have q:(execOp (ev N σ) ⟨dst,.panic x,ty,pos,af,none⟩).run P w= .halt (.panic<|.iface t v) w:=by
  simp [execOp,A,Instr.panic]
 rw [hU,q]
 exact ⟨σ,aa,hp⟩
theorem VA {t:TypeId} {d:TypeDesc} {v:Value} (hu:P.underlying t=some d) (hd:(match d with | .interface _=>false | _=>true)=true) (a:ev N σ x=v):(execOp (ev N σ) ⟨dst,.makeInterface t x,ty,pos,af,g⟩).run P w= .ok (.value<|.iface t v) w:=by
 cases d <;> first | (cases hd; done) | simp [execOp,Instr.makeInterface,a,eC hu]
def rD (P:Program) (t:TypeId):Bool:=match P.underlying t with | some (.interface _)=>false | some _=>true | none=>false
theorem VB {t:TypeId} {v:Value} (h:rD P t=true) (a:ev N σ x=v):(execOp (ev N σ) ⟨dst,.makeInterface t x,ty,pos,af,g⟩).run P w= .ok (.value<|.iface t v) w:=by
 unfold rD at h
 cases hd:P.underlying t with
 | none=>rw [hd] at h; cases h
 | some d=>rw [hd] at h; exact VA hd (by cases d <;> first | rfl | cases h) a
theorem Yg {xt a:TypeId} {zv:Value} (hu:rD P a=true) (q:zeroV P a=some zv) (i:ev N σ x= .nilIface):(execOp (ev N σ) ⟨dst,.typeAssert x xt a true,ty,pos,af,g⟩).run P w= .ok (.value<|.tuple #[zv,.bool false]) w:=by
 unfold rD at hu
 cases hd:P.underlying a with
 | none=>rw [hd] at hu; cases hu
 | some d=>rw [hd] at hu; cases d <;> first | (cases hu; done) | simp [execOp,MG,i,eC hd,zf q]
theorem Yf {xt a:TypeId} {v:Value} (hu:rD P a=true) (i:ev N σ x= .iface a v):(execOp (ev N σ) ⟨dst,.typeAssert x xt a true,ty,pos,af,g⟩).run P w= .ok (.value<|.tuple #[v,.bool true]) w:=by
 unfold rD at hu
 cases hd:P.underlying a with
 | none=>rw [hd] at hu; cases hu
 | some d=>rw [hd] at hu; cases d <;> first | (cases hu; done) | simp [execOp,MG,i,eC hd]
variable {S:World→Prop} {fuel:Nat} {bc:Array Bool}
theorem ta {o:Oper} {Pn:List PanicEntry→World→Prop} (i:Nat) (hi:ops[i]? =some o) (A:lj ops bc i=true) (q:o.guard=none)
 (h:oM P N o σ w (fun σ w=>S w∧fI P N ops Q S fuel (bc.setIfInBounds i true) σ w) Pn) (hp:∀ c w',Pn c w'→∀ a,(∀ i∈N.F,a i=σ i)→Q (.panic c) a w'):fI P N ops Q S (fuel+1) bc σ w:=by
 unfold fI at*
 refine wpAnyH_all (rs:= [i]) (by simpa [lj] using A) (by simp) ?_
 intro k hk
 obtain rfl :k=i:=by simpa using hk
 unfold wpOp
 simp only [hi]
 rw [if_pos (jO _ q _)]
 exact .inl<|zd h (fun σ w hk=>hk) hp
end
section
variable {P:Program} {N:Fm} {Q:Exit→(Nat→Value)→World→Prop} {σ:Nat→Value} {w:World} {ops:Array Oper} {S:World→Prop} {fuel:Nat} {bc:Array Bool}
theorem Ug {o a:Oper} {Pn:List PanicEntry→World→Prop} (i j:Nat) (hi:ops[i]? =some o) (E:ops[j]? =some a) (G:((jr .any ops bc)== [i,j])=true) (A:o.guard=none) (C:a.guard=none)
 (h:oM P N o σ w (fun σ w=>S w∧fI P N ops Q S fuel (bc.setIfInBounds i true) σ w) Pn) (hp:∀ c w',Pn c w'→∀ q,(∀ i∈N.F,q i=σ i)→Q (.panic c) q w')
 (h1:dR P N a σ w (fun σ w=>S w∧fI P N ops Q S fuel (bc.setIfInBounds j true) σ w)):fI P N ops Q S (fuel+1) bc σ w:=by
 unfold fI at*
 refine wpAnyH_all (rs:= [i,j]) (by simpa using G) (by simp) ?_
 intro k hk
 simp only [gr,tZ,or_false] at hk
 rcases hk with rfl | rfl
 · unfold wpOp
   simp only [hi]
   rw [if_pos (jO _ A _)]
   exact .inl<|zd h (fun _ _ hk=>hk) hp
 · unfold wpOp
   simp only [E]
   rw [if_pos (jO _ C _)]
   exact .inl<|tD h1 fun _ _ hk=>hk
end
section
variable {P:Program} {N:Fm} {Q:Exit→(Nat→Value)→World→Prop} {σ:Nat→Value} {w:World} {ops:Array Oper} {S:World→Prop} {fuel r:Nat} {bc:Array Bool}
theorem I0 {o:Oper} {Pn:List PanicEntry→World→Prop} (i:Nat) (hi:ops[i]? =some o) (E:lj ops bc i=true) (C:o.guard=none)
 (h:oM P N o σ w (fun σ w=>S w∧iO P N ops Q S r fuel (bc.setIfInBounds i true) σ w) Pn) (hp:∀ c w',Pn c w'→∀ q,(∀ i∈N.F,q i=σ i)→Q (.panic c) q w'):iO P N ops Q S r (fuel+1) bc σ w:=by
 unfold iO at*
 have a:jr .any ops bc= [i]:=by simpa [lj] using E
 refine ⟨fun A=>absurd (a ▸ A) (by simp),fun k hk=> ?_⟩
 rw [a] at hk
 obtain rfl :k=i:=by simpa using hk
 unfold wpOp
 simp only [hi]
 rw [if_pos (jO _ C _)]
 exact .inl<|zd h (fun σ w hk=>⟨fun _=>hk.1,hk.2⟩) hp
end
abbrev p5 (P:Program) (fn:Func) (R:Value→World→Prop):Exit→Act→World→Prop :=bodyPostD P fn (fun e w'=> ∃ v,e= .returned v∧R v w')
theorem Sn {P:Program} {f:FuncId} {N:Nat} {fn:Func} {c:Code} {args:List Value} {w:World} {R:Value→World→Prop} (F:List Nat) (q:P.funcs[f]? =some fn) (i:fn.body=some c)
 (a:fn.ntmps=N) (hn:oU args.length N=true) (h:nV P ⟨N,[],F,none⟩ c (p5 P fn R) (mG args) w):bo P f args.toArray w R:=by
 subst a
 refine calls_of_wp_defers q i ?_
 rw [yM fn args F hn]
 exact wpIn_wide.1 h
section
variable {P:Program} {n:Nat} {D:List Deferred} {F:List Nat} {σ:Nat→Value} {w:World} {fn:Func} {R:Value→World→Prop} {B:Exit→Act→World→Prop}
theorem SJ {v:Value} (i:(results fn (act ⟨n,[],F,none⟩ σ).tmps).run P w= .ok v w) (a:R v w):qb ⟨n,[],F,none⟩ (p5 P fn R) .ret σ w:=⟨v,i,v,rfl,a⟩
theorem Vb:¬LetsOut (p5 P fn R):=fun ⟨_,_,h⟩=>by obtain ⟨v,h,_⟩:=h; cases h
theorem RU {id d:Nat} {f:FuncId} (J:¬LetsOut B) {cs:Array Operand} {G I:TypeId} {C E:String} {q A:Array Edge} {y:Code} (i:Array Value) (O:cs.toList.map (ev ⟨n,[],F,none⟩ σ)=i.toList) (hd:d < n)
 (h:nV P ⟨n,[{target:= .fn (.func f) i,args:= #[]}],F,none⟩ y B (dB σ d<|.func (.func f) #[] i) w):
 nV P ⟨n,[],F,none⟩ (.region id #[⟨some d,.makeFunc (.func f) #[] cs,G,C,q,none⟩,⟨none,.defer ⟨.value (.tmp d),#[],#[]⟩,I,E,A,none⟩] false) (Exit.then (y.wpIn (fe none) 0 P B) B) σ w:=by
 have U:cs.map (ev ⟨n,[],F,none⟩ σ)=i:=zj.1<|by rw [nk]; exact O
 refine wpIn_region ?_
 have M:¬LetsOut (Exit.then (y.wpIn (fe none) 0 P B) B):=fun ⟨a,w,h⟩=>J ⟨a,w,h⟩
 refine Ce (r:=none) M aa _ _ _ ?_
 show wpOps P _ _ [0,1] _ _
 simp only [wpOps,M6,tU,List.getElem?_cons_succ]
 rw [if_pos (jO _ rfl _)]
 refine .inl ?_
 unfold jZ
 have h1:(execOp (act ⟨n,[],F,none⟩ σ).eval ⟨some d,.makeFunc (.func f) #[] cs,G,C,q,none⟩).run P w= .ok (.value<|.func (.func f) #[] i) w:=by
  rw [hU,mf,U]; simp
 rw [h1]
 simp only [kV]
 rw [if_pos (jO _ rfl _),jH]
 refine .inl ?_
 have h2:(execOp (act ⟨n,[],F,none⟩<|iN σ (some d)<|.func (.func f) #[] i).eval ⟨none,.defer ⟨.value (.tmp d),#[],#[]⟩,I,E,A,none⟩).run P w= .ok (.defer {target:= .fn (.func f) i,args:= #[]}) w:=by
  have V:ev ⟨n,[],F,none⟩ (dB σ d<|.func (.func f) #[] i) (.tmp d)= .func (.func f) #[] i:=by
   show cond (gD d n) (dB σ d _ d) undef=_
   rw [show gD d n=true from by simpa using hd]
   show dB σ d _ d=_
   unfold dB; simp
  rw [hU]
  show (execOp (ev ⟨n,[],F,none⟩<|dB σ d<|.func (.func f) #[] i) _).run P w=_
  simp [execOp,resolve,V,qM]
 rw [h2]
 exact h
end
theorem V5 {P:Program} {ops:Array Oper} {Q:Exit→Act→List Frame→World→Prop} {cs:List Frame} (A:¬LetsOut fun e a w=>Q e a cs w):∀ (l:List Nat) (a:Act) (w:World),wpOps P ops (fun e a w=>Q e a cs w) l a w→wpOpsS P ops Q l a cs w:=by
 intro l
 induction l with
 | nil=>exact fun _ _ h=>h
 | cons i l q=>
   intro a w h
   simp only [wpOps] at h
   simp only [wpOpsS]
   cases ho:ops[i]? with
   | none=>simp only [ho] at h ⊢; exact q a w h
   | some o=>
     simp only [ho] at h ⊢
     by_cases hw:Region.wanted o (yielded ops a.tmps)=true
     · rw [if_pos hw] at h ⊢
       rcases h with h | h
       · unfold jZ at h
         generalize (execOp a.eval o).run P w=x at h
         cases x with
         | ok n w'=>
           cases n <;> simp only [kV] at h ⊢ <;>
            first
             | exact q _ _ h
             | exact lN h fun e w'' he=>by cases e <;> first | exact q _ _ he | exact he
             | exact D5 h fun v w'' he=>q _ _ he
         | halt x w'=>cases x <;> simp only [kV] at h ⊢ <;> exact h
       · exact absurd h.2 A
     · rw [if_neg hw] at h ⊢
       exact q _ _ h
theorem Vf {P:Program} {ops:Array Oper} {Q A:Exit→Act→World→Prop} (q:∀ e a w,Q e a w→A e a w) (C:¬LetsOut Q):∀ (l:List Oper) (a:Act) (w:World),wpList P ops Q l a w→wpList P ops A l a w:=by
 intro l
 induction l with
 | nil=>exact fun _ _ h=>q _ _ _ h
 | cons o l i=>
   intro a w h
   unfold wpList at h ⊢
   split at h
   · rename_i hw
     rw [if_pos hw]
     rcases h with h | h
     · left
       unfold jZ at h ⊢
       generalize (execOp a.eval o).run P w=x at h
       cases x with
       | ok n w'=>
         cases n <;> simp only [kV] at h ⊢ <;>
          first
           | exact i _ _ h
           | exact lN h (fun e w'' he=>by
            cases e with
            | returned v=>exact i _ _ he
            | panicked c=>exact q _ _ _ he
            | outgrown=>exact absurd he C)
           | exact D5 h fun v w'' he=>i _ _ he
       | halt x w'=>cases x <;> simp only [kV] at h ⊢ <;> exact q _ _ _ h
     · exact absurd h.2 C
   · rename_i hw
     rw [if_neg hw]; exact i _ _ h
theorem F5 {P:Program} {f:FuncId} {fn:Func} {id N d:Nat} {ty:TypeId} {pos :String} {af:Array Edge} {rest:List Oper} {y:Code} {args:List Value} {w:World} {u E:FrameMode} {v:Value} {R:World→Prop}
 (ac:P.funcs[f]? =some fn) (aa:fn.body=some (.seq (.region id (⟨some d,.call ⟨.builtin .recover,#[],#[]⟩,ty,pos,af,none⟩::rest).toArray false) y)) (Z:fn.ntmps=N) (hn:oU args.length N=true)
 (ae:∀ (A:Frame) (cs:List Frame),A.mode=u→(recoverD (A::cs)=some (v,{A with mode:=E} ::cs))∨(recoverD (A::cs)=none∧v= .nilIface∧E=u))
 (h:eM P ⟨N,[],[],none⟩ (⟨some d,.call ⟨.builtin .recover,#[],#[]⟩,ty,pos,af,none⟩::rest).toArray (lM (fun σ w=>dQ P ⟨N,[],[],none⟩ y (fin P fn ⟨N,[],[],none⟩ fun _ w=>R w) σ w)<|fin P fn ⟨N,[],[],none⟩ fun _ w=>R w) rest (dB (mG args) d v) w):
 CallsD P f args.toArray u w fun e G w'=> ∃ v,e= .returned v∧G=E∧R w':=by
 subst Z
 refine callsD_of_wpS ac aa ?_
 intro A cs hu
 rw [yM fn args [] hn]
 refine wpS_seq<|wpS_region ?_
 have ag:j5 (⟨some d,.call ⟨.builtin .recover,#[],#[]⟩,ty,pos,af,none⟩::rest).toArray.size=0::(List.range' 1 rest.length):=by
  rw [oa,cT,List.range_eq_range',List.range'_succ]
 rw [ag]
 simp only [wpOpsS,M6,tU]
 rw [if_pos (jO _ rfl _)]
 have ah:(execOp (act ⟨fn.ntmps,[],[],none⟩<|mG args).eval ⟨some d,.call ⟨.builtin .recover,#[],#[]⟩,ty,pos,af,none⟩).run P w= .ok .recover w:=by
  rw [hU]
  simp [execOp,resolve,invoke,builtin]
 rw [ah]
 simp only
 obtain ⟨I,J⟩:∃ I,I=({A with mode:=E} ::cs:List Frame):=⟨_,rfl⟩
 have ab:∀ X:Act→List Frame→Prop,X ((act ⟨fn.ntmps,[],[],none⟩<|mG args).put (some d) v) I→
  (match recoverD (A::cs) with
   | some (v,M)=>X ((act ⟨fn.ntmps,[],[],none⟩<|mG args).put (some d) v) M
   | none=>X ((act ⟨fn.ntmps,[],[],none⟩<|mG args).put (some d) .nilIface) (A::cs)):=by
  intro X V
  rcases ae A cs hu with h1 | ⟨h1,h2,h3⟩
  rw [h1]; subst J; exact V
  rw [h1]; subst h2 h3
  have :({A with mode:=E} :Frame)=A:=by subst hu; rfl
  rw [this] at J; subst J; exact V
 refine ab (fun a M=>wpOpsS P _ _ _ a M w) ?_
 rw [jH]
 refine V5 ?_ _ _ _ ?_
 rintro ⟨a,w,h⟩
 simp only [Exit.thenS,bodyPostS] at h
 obtain ⟨_,_,h,_⟩:=h; cases h
 have h1:=wpOps_eq_wpList (P:=P) (ops:=(⟨some d,.call ⟨.builtin .recover,#[],#[]⟩,ty,pos,af,none⟩::rest).toArray) (Q:=fun e a w'=>Exit.thenS (Code.wpS P y (bodyPostS P fn A cs fun e G w'=> ∃ v,e= .returned v∧G=E∧R w')) (bodyPostS P fn A cs fun e G w'=> ∃ v,e= .returned v∧G=E∧R w') e a I w') rest 1 fun j=>by simp [Nat.add_comm]
 rw [h1]
 unfold eM at h
 refine Vf ?_ Co _ _ _ h
 intro e a w' C
 have Y:∀ (e:Exit) (σ:Nat→Value) (w':World),fin P fn ⟨fn.ntmps,[],[],none⟩ (fun _ w=>R w) e σ w'→bodyPostS P fn A cs (fun e G w'=> ∃ v,e= .returned v∧G=E∧R w') e (act ⟨fn.ntmps,[],[],none⟩ σ) I w':=by
  intro e σ w' q
  cases e with
  | normal=>obtain ⟨v,U,O⟩:=q; exact ⟨rfl,E,J,v,U,v,rfl,rfl,O⟩
  | ret=>obtain ⟨v,U,O⟩:=q; exact ⟨rfl,E,J,v,U,v,rfl,rfl,O⟩
  | _=>exact q.elim
 cases e with
 | normal=>
   obtain ⟨σ,rfl,q⟩:=C
   refine wpS_of_wp ?_
   simp only [lM] at q
   unfold dQ at q
   refine Mr ?_<|wpIn_wide.1 q
   intro e a w' C
   cases e with
   | panic c=>obtain ⟨σ,rfl,q⟩:=C; exact (q σ fun _ _=>rfl).elim
   | outgrown=>exact C.elim
   | _=>obtain ⟨σ,rfl,q⟩:=C; exact Y _ σ w' q
 | panic c=>obtain ⟨σ,rfl,q⟩:=C; exact (q σ fun _ _=>rfl).elim
 | outgrown=>exact C.elim
 | ret=>obtain ⟨σ,rfl,q⟩:=C; exact Y .ret σ w' q
 | exit i=>obtain ⟨σ,rfl,q⟩:=C; exact q.elim
 | goto i=>obtain ⟨σ,rfl,q⟩:=C; exact q.elim
section
variable {P:Program} {n:Nat} {F:List Nat} {σ:Nat→Value} {w:World} {fn:Func} {R:Value→World→Prop}
theorem SM {g:FuncId} {a:Array Value} {M:World→Prop} (hu:(invoke (.fn (.func g) a) #[]).run P w= .ok (.enter g a) w)
 (q:CallsD P g a .returning w fun e A w'=> ∃ v,e= .returned v∧A= .returning∧M w') (i:∀ w',M w'→∃ v,(results fn (act ⟨n,[{target:= .fn (.func g) a,args:= #[]}],F,none⟩ σ).tmps).run P w'= .ok v w'∧R v w'):
 qb ⟨n,[{target:= .fn (.func g) a,args:= #[]}],F,none⟩ (p5 P fn R) .ret σ w:=by
 refine leaves_cons (by simp) hu ?_
 refine Mq q ?_
 rintro e C w' ⟨v,rfl,rfl,hm⟩
 obtain ⟨v2,h1,h2⟩:=i w' hm
 exact ⟨v2,h1,v2,aa,h2⟩
theorem SN {g:FuncId} {a:Array Value} {M:World→Prop} {v:Value} (hu:(invoke (.fn (.func g) a) #[]).run P w= .ok (.enter g a) w)
 (q:CallsD P g a (.panicking [{v:=v,recovered:=false}]) w fun e A w'=> ∃ x,e= .returned x∧A= .panicking [{v:=v,recovered:=true}]∧M w') (i:∀ w',M w'→∃ v,(results fn (act ⟨n,[{target:= .fn (.func g) a,args:= #[]}],F,none⟩ σ).tmps).run P w'= .ok v w'∧R v w'):
 qb ⟨n,[{target:= .fn (.func g) a,args:= #[]}],F,none⟩ (p5 P fn R) (.panic [{v:=v,recovered:=false}]) σ w:=by
 refine leaves_cons (by simp) hu ?_
 refine Mq q ?_
 rintro e C w' ⟨x,rfl,rfl,hm⟩
 obtain ⟨v2,h1,h2⟩:=i w' hm
 exact ⟨v2,h1,v2,aa,h2⟩
end
end Go.Hb
end
section
namespace Go.Hb
def mj (w:World) (B e n:Nat) (v:Value) (xs:List Value):Prop :=
 ∃ a cp,v= .slice a n cp∧n≤cp∧(xs= []∨∃ b o cur z,a=some ⟨b,o,none⟩∧B≤b∧w.heap[b]? =some (.cells cur e z)∧∀ (j:Nat) u,xs[j]? =some u→cur[o+j]? =some u)
theorem Tg.Yp {w:World} {B e n:Nat} {v:Value} {xs:List Value} (h:Tg w B e n v xs):mj w B e n v xs:=by
 obtain ⟨a,cp,rfl,C,i⟩:=h
 refine ⟨a,cp,aa,C,i.imp id ?_⟩
 rintro ⟨b,cur,z,q,A,E,i⟩
 exact ⟨b,0,cur,z,q,A,E,fun j u hu=>by rw [Nat.zero_add]; exact i j u hu⟩
theorem mj.cells {w:World} {B e n cp:Nat} {a:Option Addr} {xs:List Value} (h:mj w B e n (.slice a n cp) xs):n≤cp∧aJ w.heap a xs:=by
 obtain ⟨E,G,C,q,i⟩:=h
 cases C
 rcases i with h | ⟨b,o,cur,z,rfl,_,A,i⟩
 · subst h; exact ⟨q,aJ.nil _ _⟩
 · refine ⟨q,fun _=>rfl,fun j u hu=> ?_⟩
   show Hb.aQ w.heap b (o+j)=_
   rw [a7 A]; exact i j u hu
theorem mj.slice {w:World} {B e n:Nat} {v:Value} {xs:List Value} (h:mj w B e n v xs):∃ a cp,v= .slice a n cp:=let ⟨a,cp,hv,_⟩:=h; ⟨a,cp,hv⟩
theorem mj.md {F:Nat→Prop} {w w':World} {B e n:Nat} {v:Value} {xs:List Value} (h:mj w B e n v xs) (hm:Md F w w') (A:∀ k,F k→∀ cur z,w.heap[k]?≠some (.cells cur e z)):mj w' B e n v xs:=by
 obtain ⟨a,cp,rfl,q,h | ⟨b,o,cur,z,rfl,C,i,E⟩⟩:=h
 · exact ⟨a,cp,aa,q,.inl h⟩
 · exact ⟨_,cp,aa,q,.inr ⟨b,o,cur,z,aa,C,by rw [hm.cz b (cQ.1 i).1 (fun hk=>A b hk cur z i)]; exact i,E⟩⟩
theorem mj.po {w:World} {B e n m cp:Nat} {a:Option Addr} {xs:List Value} (h:mj w B e (n+1) (.slice a (n+1) cp) xs) (E:xs.length=(n+1)*m):mj w B e n (.slice (gp a cp 1 m) n<|cp - 1) (xs.drop m):=by
 obtain ⟨I,J,C,M,A⟩:=h
 cases C
 refine ⟨_,_,aa,ab,?_⟩
 rcases A with rfl | ⟨b,o,cur,z,rfl,i,q,G⟩
 · exact .inl<|by simp
 · unfold gp
   by_cases h1:cp=1
   · refine .inl<|fS ?_
     obtain rfl :n=0:=ab
     rw [fP,E]; omega
   · rw [if_neg h1]
     refine .inr ⟨b,o+1 *m,cur,z,?_,i,q,fun j u hu=> ?_⟩
     · rw [mg,ml]
     · rw [List.getElem?_drop] at hu
       have :=G _ u hu
       rw [show o+1 *m+j=o+(m+j) from by omega]; exact this
def ez (w:World) (B e:Nat) (vs:List Value) (a:List (List Nat)):Prop :=vs.length=a.length∧∀ (i:Nat) v l,vs[i]? =some v→a[i]? =some l→Tg w B e l.length v (l.map bg)
theorem ez.nil (w:World) (B e:Nat):ez w B e [] []:=⟨rfl,fun i v l a=>by simp at a⟩
theorem ez.md {F:Nat→Prop} {w w':World} {B e:Nat} {vs:List Value} {a:List (List Nat)} (h:ez w B e vs a) (hm:Md F w w') (q:∀ k,F k→∀ cur z,w.heap[k]?≠some (.cells cur e z)):ez w' B e vs a:=⟨h.1,fun i v l h1 h2=>(h.2 i v l h1 h2).md hm q⟩
theorem ez.wk {w w':World} {B e:Nat} {vs:List Value} {a:List (List Nat)} (h:ez w B e vs a) (hm:Wk w w'):ez w' B e vs a:=h.md hm fun _ hk=>hk.elim
theorem ez.mono {w:World} {B B' e:Nat} {vs:List Value} {a:List (List Nat)} (h:ez w B e vs a) (q:B'≤B):ez w B' e vs a:=⟨h.1,fun i v l h1 h2=>(h.2 i v l h1 h2).mono q⟩
theorem ez.snoc {w:World} {B e:Nat} {vs:List Value} {q:List (List Nat)} {v:Value} {l:List Nat} (a:ez w B e vs q) (C:Tg w B e l.length v (l.map bg)):ez w B e (vs++ [v]) (q++ [l]):=by
 refine ⟨by rw [bL,bL,a.1]; rfl,fun i E G h1 h2=> ?_⟩
 have A:=a.1
 by_cases hi:i < vs.length
 · rw [me hi] at h1
   rw [me ab] at h2
   exact a.2 i E G h1 h2
 · rw [mN ab] at h1
   rw [mN ab,← A] at h2
   cases hj:i - vs.length with
   | zero=>rw [hj] at h1 h2; cases h1; cases h2; exact C
   | succ j=>rw [hj] at h1; simp at h1
def jm (t ln:Nat) (e:Int):List PanicEntry:= [{v:= .iface t (.agg [.int .i64 1,.int .i64 (ln:Nat),.int .i64 e].toArray),recovered:=false}]
theorem eE {h:World} {b:Nat} {isK:Value→Prop} {f:Value→Option Value} (hm:du h.heap b isK f):tag h b=1:=let ⟨_,h1,_⟩:=hm; Yh h1
def Wr (L:List Nat) (ms mt mc B:Nat) (w:World) (k:Nat):Prop :=B≤k∧(k=ms∨k=mt∨k=mc∨L.contains (tag w k)=true)
abbrev Mw (L:List Nat) (ms mt mc B:Nat) (w w':World):Prop :=Md (Wr L ms mt mc B w) w w'
section
variable {L:List Nat} {ms mt mc B:Nat} {w w' w'':World}
theorem Mw.trans (h:Mw L ms mt mc B w w') (a:Mw L ms mt mc B w' w''):Mw L ms mt mc B w w'':=by
 refine Md.trans' h a fun k hk hw=> ?_
 refine Classical.byContradiction fun hn=> ?_
 have :=Md.tag h hk hn
 unfold Wr at hw
 rw [this] at hw
 exact hn hw
theorem Wk.mw (h:Wk w w'):Mw L ms mt mc B w w':=h.mono fun _ _ a=>a.elim
theorem Mw.of {F:Nat→Prop} (h:Md F w w') (q:TF w L F) (i:∀ k,F k→B≤k):Mw L ms mt mc B w w':=h.mono fun k _ a=>⟨i k a,.inr<|.inr<|.inr<|q k a⟩
theorem Mw.wk {a:World} (i:Wk a w) (h:Mw L ms mt mc B w w') (q:a.heap.size≤B):Wk a w':=Md.trans' i h fun k hk hw=>by have :=hw.1; omega
theorem Wr.ne (hs:tag w ms=1) (C:tag w mt=1) (A:tag w mc=1) {e:Nat} (q:L.contains (e+2)=false):∀ k,Wr L ms mt mc B w k→∀ cur z,w.heap[k]?≠some (.cells cur e z):=by
 rintro k ⟨_,rfl | rfl | rfl | h⟩ cur z i <;> have a:=dw i
 · omega
 · omega
 · omega
 · rw [a,q] at h; cases h
end
end Go.Hb
end
section
namespace Go.Hb
section
variable {P:Program} {N:Fm} {σ:Nat→Value} {w:World} {dst:Option Nat} {ty:TypeId} {pos :String} {af:Array Edge} {g:Option (Nat×Bool)} {x y:Operand}
theorem SA (d:Nat) {t e:TypeId} {a:Option Addr} {n c:Nat} (hu:P.underlying t=some (.slice e)):(Op.equalIn (d+1) t (.slice a n c)<|.slice none 0 0).run P w= .ok a.isNone w:=by
 cases a <;> simp [Op.equalIn,eC hu]
theorem SB {t e:TypeId} {a:Option Addr} {n c:Nat} (hu:P.underlying t=some (.slice e)):(Op.equal t (.slice a n c)<|.slice none 0 0).run P w= .ok a.isNone w:=SA 9999 hu
theorem sR {t A e:TypeId} {a:Option Addr} {n c:Nat} (hu:P.underlying t=some (.slice e)) (i:ev N σ x= .slice a n c) (q:ev N σ y= .slice none 0 0):
 (execOp (ev N σ) ⟨dst,.binOp .eql t x y A,ty,pos,af,g⟩).run P w= .ok (.value<|.bool a.isNone) w:=by
 have h:(binOp .eql t (.slice a n c)<|.slice none 0 0).run P w= .ok (.bool a.isNone) w:=by
  simp only [binOp]; simp [SB hu]
 simp [execOp,i,q,eqGuard,h]
end
def Rd (h:Array Obj) (v:Value) (n size:Nat) (xs:List Value):Prop := ∃ a c,v= .slice a n c∧aJ h a xs∧xs.length=n*size∧(a=none→n=0)
theorem Rd.jN {w:World} {B e size n:Nat} {v:Value} {xs:List Value} (h:w.ownsRow B e size v n xs):Rd w.heap v n size xs:=by
 obtain ⟨a,c,rfl,h1,_,_,h3⟩:=ti h
 refine ⟨a,c,aa,h1,h.1,fun i=> ?_⟩
 subst i
 rcases h.2 with ⟨h4,h5⟩ | ⟨g,cap,cur,h4,_⟩
 · exact h5
 · simp at h4
theorem JK {w:World} {B e size n k cp:Nat} {a:Option Addr} {xs:List Value} (h:w.ownsRow B e size (.slice a n cp) n xs) (hk:k≤n) (C:a≠none):w.ownsRow B e size (.slice a k cp) k (xs.take<|k*size):=by
 obtain ⟨i,h⟩:=h
 refine ⟨by rw [dT,i]; exact oV (sc _ hk),?_⟩
 rcases h with ⟨h1,_⟩ | ⟨g,cap,cur,h1,h2,h3,h4,h5,q,A⟩
 · simp only [mL] at h1; exact absurd h1.1 C
 · simp only [mL,true_and] at h1
   obtain ⟨rfl,rfl⟩:=h1
   refine .inr ⟨g,_,cur,aa,h2,h3,ab,h5,q,?_⟩
   rw [← A,Nl,oV (sc _ hk)]
section
variable {P:Program} {N:Fm} {σ:Nat→Value} {w:World} {dst:Option Nat} {ty:TypeId} {pos :String} {af:Array Edge} {g:Option (Nat×Bool)} {x y z u:Operand} {K:(Nat→Value)→World→Prop}
theorem XG {t n len cap:Nat} {a:Option Addr} {k k' G:IntKind} {i j m:Nat} (he:gv P t=some n) (A:ev N σ x= .slice a len cap) (C:ev N σ y= .int k (i:Nat)) (E:ev N σ z= .int k' (j:Nat)) (hu:ev N σ u= .int G (m:Nat)) (h:i≤j∧j≤m∧m≤cap):
 (execOp (ev N σ) ⟨dst,.slice t x (some y) (some z) (some u),ty,pos,af,g⟩).run P w= .ok (.value<|.slice (gp a m i n) (j - i)<|m - i) w:=by
 have h1:(0:Int)≤(i:Int):=ab
 have h2:(0:Int)≤(j:Int):=ab
 have h3:(0:Int)≤(m:Int):=ab
 unfold gv at he
 cases hd:P.underlying t with
 | none=>rw [hd] at he; cases he
 | some d=>
   rw [hd] at he
   cases d <;> first | (cases he; done) | skip
   rename_i e
   cases hi':P.info? e with
   | none=>simp [hi'] at he
   | some q=>
     simp only [hi',mg,fQ] at he
     subst he
     simp only [execOp,rW,Instr.slice,A,C,E,hu,mg,oQ,Instr.sliceBound,asIntOf]
     simp [eC hd,jg hi',sizeOf,h.1,h.2.1,h.2.2,gp]
theorem N6 {t e size bytes B n m cp c A:Nat} {xs news:List Value} {a:Option Addr} (Y:fY P t e size bytes=true) (M:w.ownsRow B e size (.slice (some ⟨A,0,none⟩) n cp) n xs) (Z:ev N σ x= .slice (some ⟨A,0,none⟩) n cp)
 (aa:ev N σ y= .slice a m c) (G:aJ w.heap a news) (I:a≠none) (J:news.length=m*size) (h1:news.all Value.oneCell'=true) (V:n+m≤cp)
 (k:∀ w',Md (fun q=>q=A) w w'→w'.ownsRow B e size (.slice (some ⟨A,0,none⟩) (n+m) cp) (n+m) (xs++news)→K (iN σ dst<|.slice (some ⟨A,0,none⟩) (n+m) cp) w'):
 dR P N ⟨dst,.call ⟨.builtin .append,#[x,y],#[t,t]⟩,ty,pos,af,g⟩ σ w K:=by
 obtain ⟨hu,i,zv,hi,ae,hs,ab,ag,ac⟩:=rL Y
 obtain ⟨ad,rfl⟩:∃ ad,a=some ad:=by cases a with | none=>exact absurd rfl I | some ad=>exact ⟨ad,rfl⟩
 have hn:∀ j v,news[j]? =some v→w.cell? (ad.add j)=some v:=fun j v C=>by
  have E:news≠[]:=fun e=>by rw [e] at C; simp at C
  have h2:=G.ok E
  simp only [fQ] at h2
  rw [h2,ml,nz]; exact G.aQ j v C
 obtain ⟨w',U,h2,h3⟩:=Go.run_append_fits (P:=P) (w:=w) B t ty e i size hu hi hs A n cp xs M ad m c news J hn (uh h1) V
 refine nW (w':=w') (v:= .slice (some ⟨A,0,none⟩) (n+m) cp) ?_<|k w' ⟨h3.os,h3.output,h3.size,fun q O E=>h3.block q O fun e=>E<|qW e⟩ h2
 simp [execOp,resolve,invoke,builtin,Z,aa,U]
end
end Go.Hb
end
section
namespace Go.Hb
def qc (P:Program) (t:TypeId):Option (Nat×Nat):=
 match P.underlying t with
 | some (.array n e)=>(P.info? e).map fun i=>(n,i.size)
 | _=>none
section
variable {P:Program} {N:Fm} {σ:Nat→Value} {w:World} {dst:Option Nat} {ty:TypeId} {pos :String} {af:Array Edge} {g:Option (Nat×Bool)} {x y:Operand}
theorem ke {t n q b off :Nat} {k:IntKind} {i:Int} (he:qc P t=some (n,q)) (A:ev N σ x= .pointer (some ⟨b,off,none⟩)) (C:ev N σ y= .int k i) (a:0≤i∧i < n):
 (execOp (ev N σ) ⟨dst,.indexAddr t x y,ty,pos,af,g⟩).run P w= .ok (.value<|.pointer<|some ⟨b,off+i.toNat*q,none⟩) w:=by
 unfold qc at he
 cases hd:P.underlying t with
 | none=>rw [hd] at he; cases he
 | some d=>
   rw [hd] at he
   cases d <;> first | (cases he; done) | skip
   rename_i m e
   cases hi:P.info? e with
   | none=>simp [hi] at he
   | some j=>
     simp only [hi,mg,fQ,se] at he
     obtain ⟨rfl,rfl⟩:=he
     simp [execOp,Instr.indexAt,qN,A,C,asIntOf,eC hd,a.1,a.2,sizeOf,jg hi,ml]
end
theorem Vx {h:Array Obj} {b:Nat} {a:List UInt8} (i:bO h b (marksOf a)) (c:UInt8):Hb.aQ h b (0 +((c.toNat:Nat):Int).toNat*1)=some (.bool<|decide (c∈a)):=by
 rw [i.aQ,show 0 +((c.toNat:Nat):Int).toNat*1=c.toNat from by omega]; exact Vu a c
theorem Vy {h:Array Obj} {b:Nat} {a:List UInt8} {c:UInt8} (i:bO h b ((marksOf a).set (0 +((c.toNat:Nat):Int).toNat*1)<|.bool true)):bO h b (marksOf<|a++ [c]):=by
 rw [show 0 +((c.toNat:Nat):Int).toNat*1=c.toNat from by omega,Vw] at i; exact i
end Go.Hb
end
section
namespace Go.Hb
theorem UL (c:UInt8):∀ l:List UInt8,MH l c=e8 c l:=by
 intro l
 induction l with
 | nil=>rfl
 | cons b l A=>
   unfold MH
   rw [A]
   rw [show e8 c (b::l)=if (b::l).idxOf c < (b::l).length then ((b::l).idxOf c:Int) else -1 from rfl,List.idxOf_cons]
   by_cases h:(b==c)=true
   · rw [if_pos h,h]; rfl
   · have i:(b==c)=false :=by simpa using h
     rw [if_neg h,i]
     simp only [cond_false,cT]
     by_cases h1:l.idxOf c < l.length
     · have a:e8 c l=l.idxOf c:=if_pos h1
       rw [a,if_neg (fun q=>by have :=eq_of_beq q; omega),if_pos ab]; rfl
     · have a:e8 c l= -1:=if_neg h1
       rw [a,if_pos az,if_neg ab]
theorem Xn {P:Program} {f:FuncId} {fn:Func} (i:P.funcs[f]? =some fn) (q:(fn.name== "runtime.NumGoroutine")=false) (a:fn.body.isNone=true) (hn:My fn=none)
 (he:Mx fn=some Zu) (l:List UInt8) (c:UInt8) (w:World):(callFunc f #[str l,.int .u8 c.toNat]).run P w= .ok (.value<|.int .i64<|e8 c l) w:=by
 rw [run_callFunc_extern i q a hn he]
 unfold str
 rw [Lib.run_indexByteString]
 have h1:((c.toNat:Int)).toNat.toUInt8=c:=kX.1<|by simp
 rw [h1,UL]
 rfl
theorem Xm {P:Program} {f:FuncId} {fn:Func} (i:P.funcs[f]? =some fn) (q:(fn.name== "runtime.NumGoroutine")=false) (a:fn.body.isNone=true) (hn:My fn=none)
 (he:Mx fn=some Zt) (l:List UInt8) (c:UInt8) (w:World):(callFunc f #[str l,.int .u8 c.toNat]).run P w= .ok (.value<|.int .i64 (l.count c:Nat)) w:=by
 rw [run_callFunc_extern i q a hn he]
 unfold str
 rw [Lib.run_countString]
 have h1:((c.toNat:Int)).toNat.toUInt8=c:=kX.1<|by simp
 rw [h1]
 rfl
section
variable {P:Program} {N:Fm} {σ:Nat→Value} {w:World} {dst:Option Nat} {ty:TypeId} {pos :String} {af:Array Edge} {g:Option (Nat×Bool)}
theorem Ge {f:FuncId} {a b v:Value} {args:Array Operand} {i:Array TypeId} (h:(callFunc f #[a,b]).run P w= .ok (.value v) w) (q:args.toList.map (ev N σ)= [a,b]):
 (execOp (ev N σ) ⟨dst,.call ⟨.value (.func f),args,i⟩,ty,pos,af,g⟩).run P w= .ok (.value v) w:=by
 have :args.map (ev N σ)= #[a,b]:=by rw [← zj,nk,q]
 simp [execOp,resolve,ev,qM,invoke,this,h]
end
end Go.Hb
end
section
namespace Go.Hb
theorem Xt {L:List Value} {o:Nat} {v:Value} (h:o < L.length):(L.set o v).take (o+1)=L.take o++ [v]:=by
 rw [List.set_eq_take_append_cons_drop,if_pos h,wo,dT,oV ab,Nat.add_sub_cancel_left,eN (by rw [dT]; omega)]
 rfl
theorem Xs {L:List Value} {o m:Nat} {v:Value} (h:o < m):(L.set o v).drop m=L.drop m:=by
 rw [List.drop_set,if_pos h]
theorem Kx (b e:Nat):∀ (vs:List Value) (o:Nat) (L:List Value) (w:World),w.heap[b]? =some (.cells L.toArray e (0,0))→o+vs.length≤L.length→
 (w.setCells b o vs).heap[b]? =some (.cells (L.take o++vs++L.drop (o+vs.length)).toArray e (0,0))∧Md (fun k=>k=b) w (w.setCells b o vs):=by
 intro vs
 induction vs with
 | nil=>intro o L w a _; exact ⟨by simpa [World.setCells] using a,Md.refl _ _⟩
 | cons v r E=>
   intro o L w a q
   simp only [cT] at q
   have h1:(w.setCell ⟨b,o,none⟩ v).heap[b]? =some (.cells (L.set o v).toArray e (0,0)):=by
    have A:=(cQ.1 a).1
    have C:w.heap[b]= .cells L.toArray e (0,0):=(cQ.1 a).2
    simp only [zx]
    rw [Array.getElem?_eq_getElem (by simpa using A),Array.getElem_modify]
    simp [C,List.setIfInBounds_toArray]
   have i:Md (fun k=>k=b) w (w.setCell ⟨b,o,none⟩ v):=⟨rfl,rfl,by simp [zx],fun k _ hk=>Below.heap_setCell w _ v k hk⟩
   obtain ⟨h2,h3⟩:=E (o+1) (L.set o v) _ h1<|by rw [List.length_set]; omega
   refine ⟨?_,Md.trans i h3⟩
   show ((w.setCell ⟨b,o,none⟩ v).setCells b (o+1) r).heap[b]? =_
   rw [h2,Xt ab,Xs ab,cT,show o+1 +r.length=o+(r.length+1) from by omega]
   simp
section
variable {P:Program} {N:Fm} {σ:Nat→Value} {w:World} {ty:TypeId} {pos :String} {af:Array Edge} {g:Option (Nat×Bool)} {x:Operand} {K:(Nat→Value)→World→Prop}
theorem QP {t e B n k cp E m:Nat} {a:Option Addr} {xs:List Value} {z:Value} (ah:P.underlying t=some (.slice e)) (aj:zeroV P e=some z) (h1:z.oneCell'=true) (Y:w.ownsRow B e 1 (.slice a n cp) n xs)
 (G:ev N σ x= .slice (gp a cp k 1) m E) (hm:m=n - k) (hk:k < n) (ak:∀ w',Md (fun q=>(bR a n cp).ownBlock=some q) w w'→w'.ownsRow B e 1 (.slice a n cp) n (xs.take k++km (n - k) z)→K σ w'):
 dR P N ⟨none,.call ⟨.builtin .clear,#[x],#[t]⟩,ty,pos,af,g⟩ σ w K:=by
 obtain ⟨J,h⟩:=Y
 subst hm
 rcases h with ⟨h,rfl⟩ | ⟨i,al,cur,h,M,U,hle,O,ag,ai⟩
 · omega
 · simp only [mL,true_and] at h
   obtain ⟨rfl,rfl⟩:=h
   have ae:gp (some ⟨i,0,none⟩) cp k 1=some ⟨i,k,none⟩:=by
    unfold gp; rw [if_neg ab]; simp [ml]
   rw [ae] at G
   have C:w.heap[i]? =some (.cells cur.toList.toArray e (0,0)):=by simpa using U
   have A:cur.toList.length=cp*1:=by rw [vJ]; exact ag
   have ac:=MI (P:=P) w t e ty z ah (fun w=>zf aj w) (by cases z <;> first | rfl | (cases h1; done)) h1 i k (n - k) E ab
    (fun j V=>by rw [nz,a7 C]; simp; omega) (fun j V=>by simp only [MR,show w.heap[i]? =_ from C]; simp)
   obtain ⟨h2,h3⟩:=Kx i e (km (n - k) z) k cur.toList w C<|by rw [n9,A]; omega
   refine nW (w':=w.setCells i k<|km (n - k) z) (v:= .tuple #[]) ?_ (ak _ (h3.mono fun q _ Z=>by subst Z; rfl) ⟨?_,.inr ⟨i,cp,_,aa,M,h2,hle,O,?_,?_⟩⟩)
   · simp [execOp,resolve,invoke,builtin,G,ac]
   · rw [bL,dT,n9,J]; omega
   · simp only [oa,bL,dT,fP,n9,A]; omega
   · rw [n9,oW]
     have I:(cur.toList.take k++km (n - k) z++cur.toList.drop (k+(n - k))).toArray.toList=(cur.toList.take k++km (n - k) z)++cur.toList.drop (k+(n - k)):=rfl
     rw [I,wo,bL,dT,n9,A,oV ab,show n - (k+(n - k))=0 by omega,oc,ek,eN (by rw [bL,dT,n9,A]; omega)]
     rw [← ai,Nl,oW,oV ab]
theorem QQ {t e B n cp E m:Nat} {a:Option Addr} {xs:List Value} {z:Value} (ai:P.underlying t=some (.slice e)) (ak:zeroV P e=some z) (h1:z.oneCell'=true) (Z:w.ownsRow B e 1 (.slice a n cp) n xs) (O:a≠none)
 (G:ev N σ x= .slice (gp a cp n 1) m E) (hm:0 < m∧n+m≤cp) (al:∀ w',Md (fun q=>(bR a n cp).ownBlock=some q) w w'→w'.ownsRow B e 1 (.slice a n cp) n xs→K σ w'):
 dR P N ⟨none,.call ⟨.builtin .clear,#[x],#[t]⟩,ty,pos,af,g⟩ σ w K:=by
 obtain ⟨J,h⟩:=Z
 rcases h with ⟨h,rfl⟩ | ⟨i,am,cur,h,M,V,hle,U,ah,aj⟩
 · simp only [mL] at h; exact absurd h.1 O
 · simp only [mL,true_and] at h
   obtain ⟨rfl,rfl⟩:=h
   have ag:gp (some ⟨i,0,none⟩) cp n 1=some ⟨i,n,none⟩:=by
    unfold gp; rw [if_neg ab]; simp [ml]
   rw [ag] at G
   have C:w.heap[i]? =some (.cells cur.toList.toArray e (0,0)):=by simpa using V
   have A:cur.toList.length=cp*1:=by rw [vJ]; exact ah
   have ae:=MI (P:=P) w t e ty z ai (fun w=>zf ak w) (by cases z <;> first | rfl | (cases h1; done)) h1 i n m E hm.1
    (fun j Y=>by rw [nz,a7 C]; simp; omega) (fun j Y=>by simp only [MR,show w.heap[i]? =_ from C]; simp)
   obtain ⟨h2,h3⟩:=Kx i e (km m z) n cur.toList w C<|by rw [n9,A]; omega
   refine nW (w':=w.setCells i n<|km m z) (v:= .tuple #[]) ?_ (al _ (h3.mono fun q _ ac=>by subst ac; rfl) ⟨J,.inr ⟨i,cp,_,aa,M,h2,hle,U,?_,?_⟩⟩)
   · simp [execOp,resolve,invoke,builtin,G,ae]
   · simp only [oa,bL,dT,fP,n9,A]; omega
   · rw [n9,oW]
     have I:(cur.toList.take n++km m z++cur.toList.drop (n+m)).toArray.toList=cur.toList.take n++(km m z++cur.toList.drop (n+m)):=dF _ _ _
     rw [I,wo,dT,A,oV ab,Nat.sub_self,oc,ek,eN (by rw [dT]; omega),← aj,oW]
end
end Go.Hb
end
section
namespace Go.Hb
def z6 (P:Program) (t:TypeId):Option (List Value):=
 match P.info? t,P.underlying t with
 | some it,some (.array _ e)=>
   match it.zero,P.info? e with
   | some z,some ie=>if ie.size=1 then some z.cells.toList else none
   | _,_=>none
 | _,_=>none
def vf:List Value→List (Nat×Value)→Option (List Value)
 | a,[]=>some a
 | a,(i,v)::r=>if (v.oneCell' && gD i a.length)=true then vf (a.set i v) r else none
theorem Wz {a L:List Value} {ps:List (Nat×Value)} (h:vf a ps=some L):oP (fun i=>some (i*1,1)) a.toArray ps=some L.toArray:=by
 induction ps generalizing a with
 | nil=>simp only [vf,fQ] at h; subst h; rfl
 | cons q r E=>
   obtain ⟨i,v⟩:=q
   rw [vf] at h
   split at h
   · rename_i A
     simp only [gU] at A
     have C:=qB A.1
     have G:i < a.length:=Nat.le_of_ble_eq_true A.2
     simp only [oP,C,oW]
     rw [if_neg (by simp; omega)]
     have :=E h
     simp only [oW] at this
     rw [← this]
     simp
   · cases h
section
variable {P:Program} {N:Fm} {σ:Nat→Value} {w:World} {dst:Option Nat} {ty:TypeId} {pos :String} {af:Array Edge} {g:Option (Nat×Bool)}
theorem E0 {t:TypeId} {parts:Array (Nat×Operand)} {a L:List Value} {ps:List (Nat×Value)} (h:z6 P t=some a) (hp:parts.toList.map (fun q=>(q.1,ev N σ q.2))=ps) (i:vf a ps=some L):
 (execOp (ev N σ) ⟨dst,.build t parts,ty,pos,af,g⟩).run P w= .ok (.value<|.agg L.toArray) w:=by
 unfold z6 at h
 split at h
 · rename_i it n e hi hu
   split at h
   · rename_i z E C he
     split at h
     · rename_i hs
       simp only [fQ] at h
       subst h
       have A:P.built t (parts.map fun q=>(q.1,ev N σ q.2)).toList=some L.toArray:=by
        have :=Wz i
        simp only [Array.toArray_toList] at this
        simp only [Program.built,hi,hu,C,he,hs,nk,hp]; exact this
       simp [execOp,run_build w t _ _ A]
     · cases h
   · cases h
 · cases h
end
end Go.Hb
end
section
namespace Go.Hb
abbrev bF:Type :=Tx×List Nat
noncomputable def fV (F:aT) (row:List Tx):Except Nat bF:=
 if row.length≠1 then .error 111
 else if (bA<|row.getD 0 []).2.2.2≠0 then .error (bA<|row.getD 0 []).2.2.2
 else if gu (bA<|row.getD 0 []).1=false∨(bA<|row.getD 0 []).1= [] then .error 21
 else if 64 < (bA<|row.getD 0 []).1.length then .error 22
 else if (bA<|row.getD 0 []).2.2.1=false then .ok ((bA<|row.getD 0 []).1,[])
 else match fR F.kind F.aliases (bA<|row.getD 0 []).2.1 with
  | .error e=> .error e
  | .ok set =>if set.all (eG F)=true then .ok ((bA<|row.getD 0 []).1,set) else .error 120
section
variable {F:aT} {row:List Tx}
theorem GX (h:row.length≠1):fV F row= .error 111:=if_pos h
theorem xB (h:row.length=1) (h1:(bA<|row.getD 0 []).2.2.2≠0):fV F row= .error (bA<|row.getD 0 []).2.2.2:=by
 unfold fV; rw [if_neg (fun h2=>h2 h),if_pos h1]
variable (h:row.length=1) (h1:(bA (row.getD 0 [])).2.2.2=0)
include h h1
theorem xC (h2:gu (bA<|row.getD 0 []).1=false∨(bA<|row.getD 0 []).1= []):fV F row= .error 21:=by
 unfold fV; rw [if_neg (fun h2=>h2 h),if_neg (fun h2=>h2 h1),if_pos h2]
variable (h2:gu (bA (row.getD 0 [])).1=true) (h3:(bA (row.getD 0 [])).1≠[])
include h2 h3
omit h h1 in
theorem ux:¬(gu (bA<|row.getD 0 []).1=false∨(bA<|row.getD 0 []).1= []):=fun h=>h.elim (fun h=>by rw [h2] at h; cases h) h3
theorem GY (h4:64 < (bA<|row.getD 0 []).1.length):fV F row= .error 22:=by
 unfold fV; rw [if_neg (fun h2=>h2 h),if_neg (fun h2=>h2 h1),if_neg (ux h2 h3),if_pos h4]
variable (h4:¬64 < (bA (row.getD 0 [])).1.length)
include h4
theorem GZ (h5:(bA<|row.getD 0 []).2.2.1=false):fV F row= .ok ((bA<|row.getD 0 []).1,[]):=by
 unfold fV; rw [if_neg (fun h2=>h2 h),if_neg (fun h2=>h2 h1),if_neg (ux h2 h3),if_neg h4,if_pos h5]
variable (h5:(bA (row.getD 0 [])).2.2.1=true)
include h5
theorem G0 {e:Nat} (a:fR F.kind F.aliases (bA<|row.getD 0 []).2.1= .error e):fV F row= .error e:=by
 unfold fV; rw [if_neg (fun h2=>h2 h),if_neg (fun h2=>h2 h1),if_neg (ux h2 h3),if_neg h4,if_neg (by rw [h5]; exact ei),a]
theorem G1 {set :List Nat} {i:Nat} (a:fR F.kind F.aliases (bA<|row.getD 0 []).2.1= .ok set) (hi:i < set.length) (q:eG F (set.getD i 0)=false):fV F row= .error 120:=by
 unfold fV; rw [if_neg (fun h2=>h2 h),if_neg (fun h2=>h2 h1),if_neg (ux h2 h3),if_neg h4,if_neg (by rw [h5]; exact ei),a]
 exact if_neg<|by rw [EO 0 hi q]; exact ei
theorem Ba {set :List Nat} (a:fR F.kind F.aliases (bA<|row.getD 0 []).2.1= .ok set) (q:∀ i,i < set.length→eG F (set.getD i 0)=true):fV F row= .ok ((bA<|row.getD 0 []).1,set):=by
 unfold fV; rw [if_neg (fun h2=>h2 h),if_neg (fun h2=>h2 h1),if_neg (ux h2 h3),if_neg h4,if_neg (by rw [h5]; exact ei),a]
 exact if_pos<|EP 0 q
end
noncomputable def e7 (F:aT) (eof:Nat):Nat→List Rw→Except (Nat×Nat) (List bF)
 | 0,[]=> .ok []
 | _+1,[]=> .error (eof,116)
 | 0,(ln,_)::_=> .error (ln,116)
 | n+1,(ln,row)::rows=>match fV F row with
   | .error e=> .error (ln,e)
   | .ok x=>match e7 F eof n rows with
     | .error e=> .error e
     | .ok r=> .ok (x::r)
noncomputable def ff (F:aT) (t:Tx):Except (Nat×Nat) (List bF):=
 if 65536 < t.length then .error (0,10)
 else match bQ t with
  | []=> .error ((bJ t).length+1,116)
  | (ln,row)::rows=>if row.length≠1 then .error (ln,111) else match eX (row.getD 0 []) 8192 with
    | .error e=> .error (ln,e)
    | .ok n=>e7 F ((bJ t).length+1) n rows
def iQ (F:aT) (eof:Nat) (T:Except (Nat×Nat) (List bF)) (xs:List bF) (n:Nat) (rows:List Rw):Prop :=
 T=match e7 F eof n rows with
  | .error e=> .error e
  | .ok r=> .ok<|xs++r
section
variable {F:aT} {eof n ln:Nat} {T:Except (Nat×Nat) (List bF)} {xs:List bF} {rows:List Rw} {row:List Tx}
theorem iQ.start:iQ F eof (e7 F eof n rows) [] n rows:=by
 unfold iQ; cases e7 F eof n rows <;> rfl
theorem iQ.done (h:iQ F eof T xs 0 []):T= .ok xs:=by
 unfold iQ at h; rw [e7] at h; simpa using h
theorem iQ.ends (h:iQ F eof T xs n []) (hn:0 < n):T= .error (eof,116):=by
 obtain ⟨m,rfl⟩:∃ m,n=m+1:=⟨n - 1,ab⟩
 unfold iQ at h; rw [e7] at h; exact h
theorem iQ.more (h:iQ F eof T xs 0 ((ln,row)::rows)):T= .error (ln,116):=by
 unfold iQ at h; rw [e7] at h; exact h
theorem iQ.bad {e:Nat} (h:iQ F eof T xs n ((ln,row)::rows)) (hn:0 < n) (he:fV F row= .error e):T= .error (ln,e):=by
 obtain ⟨m,rfl⟩:∃ m,n=m+1:=⟨n - 1,ab⟩
 unfold iQ at h; rw [e7,he] at h; exact h
theorem iQ.step {x:bF} (h:iQ F eof T xs n ((ln,row)::rows)) (hn:0 < n) (he:fV F row= .ok x):iQ F eof T (xs++ [x]) (n - 1) rows:=by
 obtain ⟨m,rfl⟩:∃ m,n=m+1:=⟨n - 1,ab⟩
 unfold iQ at h ⊢; rw [e7,he] at h
 rw [h,r8]
 simp only
 cases e7 F eof m rows <;> simp
end
section
variable {F:aT} {t:Tx}
theorem GN (h:65536 < t.length):ff F t= .error (0,10):=if_pos h
theorem GO (h:¬65536 < t.length) (h1:bQ t= []):ff F t= .error ((bJ t).length+1,116):=by
 unfold ff; rw [if_neg h,h1]
variable {ln:Nat} {row:List Tx} {rows:List Rw} (h:¬65536 < t.length) (h1:bQ t=(ln,row)::rows)
include h h1
theorem RW (h2:row.length≠1):ff F t= .error (ln,111):=by
 unfold ff; rw [if_neg h,h1]; exact if_pos h2
theorem RZ (h2:row.length=1) {e:Nat} (h3:eX (row.getD 0 []) 8192= .error e):ff F t= .error (ln,e):=by
 unfold ff; rw [if_neg h,h1]; simp only; rw [if_neg (fun h=>h h2),h3]
theorem GM (h2:row.length=1) {n:Nat} (h3:eX (row.getD 0 []) 8192= .ok n):ff F t=e7 F ((bJ t).length+1) n rows:=by
 unfold ff; rw [if_neg h,h1]; simp only; rw [if_neg (fun h=>h h2),h3]
end
theorem Ty {α:Type} {a b:List α} {i:Nat} {d:α} (h:i < a.length):(a++b).getD i d=a.getD i d:=by
 rw [cV,cV,me h]
def idxs (s:Tx) (xs:List bF):List Nat:=(j5 xs.length).filter fun i=>decide ((xs.getD i ([],[])).1=s)
theorem Cd (s:Tx) (xs:List bF) (x:bF):idxs s (xs++ [x])=idxs s xs++(if x.1=s then [xs.length] else []):=by
 unfold idxs
 rw [bL,e5,List.range_succ,List.filter_append]
 congr 1
 · refine List.filter_congr fun i hi=> ?_
   have hi:i < xs.length:=by simpa using hi
   rw [Ty hi]
 · by_cases a:x.1=s <;> simp [List.filter,a]
theorem ID (s:Tx) (xs:List bF):(idxs s xs).length≤xs.length:=by
 unfold idxs; have :=zB (fun i=>decide ((xs.getD i ([],[])).1=s)) (j5 xs.length); simpa using this
theorem Sr {F:aT} {eof:Nat} :∀ {n:Nat} {rows:List Rw} {r:List bF},e7 F eof n rows= .ok r→r.length=n∧rows.length=n:=by
 intro n
 induction n with
 | zero=>
   intro rows r h
   cases rows with
   | nil=>rw [e7] at h; cases h; exact ⟨rfl,rfl⟩
   | cons q rows=>rw [e7] at h; cases h
 | succ n a=>
   intro rows r h
   cases rows with
   | nil=>rw [e7] at h; cases h
   | cons q rows=>
     rw [e7] at h
     split at h
     · cases h
     · split at h
       · cases h
       · rename_i h2
         cases h
         have :=a h2
         simp only [cT]; omega
end Go.Hb
end
section
namespace Go.Hb
section
variable {P:Program} {N:Fm} {σ:Nat→Value} {w:World} {dst:Option Nat} {ty:TypeId} {pos :String} {af:Array Edge} {g:Option (Nat×Bool)} {x:Operand}
theorem Oc {t n i b:Nat} (he:qc P t=some (n,i)) (a:ev N σ x= .pointer (some ⟨b,0,none⟩)):
 (execOp (ev N σ) ⟨dst,.slice t x none none none,ty,pos,af,g⟩).run P w= .ok (.value<|.slice (some ⟨b,0,none⟩) n n) w:=by
 unfold qc at he
 cases hd:P.underlying t with
 | none=>rw [hd] at he; cases he
 | some d=>
   rw [hd] at he
   cases d <;> first | (cases he; done) | skip
   rename_i m e
   cases hi:P.info? e with
   | none=>simp [hi] at he
   | some j=>
     simp only [hi,mg,fQ,se] at he
     obtain ⟨rfl,rfl⟩:=he
     simp [execOp,rW,qN,oQ,a,eC hd,sizeOf,jg hi,ml]
def Bn (P:Program) (t f:Nat):Option (Nat×Nat):=
 match P.underlying t with
 | some (.struct fs)=>(fs[f]?).map fun d=>(d.type,d.offset)
 | _=>none
theorem S1 {t f q off n:Nat} {cs vs:List Value} (h:Bn P t f=some (q,off)) (a:dz P q=some (some n)) (E:ev N σ x= .agg cs.toArray) (C:(cs.drop off).take n=vs):
 (execOp (ev N σ) ⟨dst,.field t x f,ty,pos,af,g⟩).run P w= .ok (.value<|.agg vs.toArray) w:=by
 subst C
 unfold Bn at h
 cases hd:P.underlying t with
 | none=>rw [hd] at h; cases h
 | some d=>
   rw [hd] at h
   cases d <;> first | (cases h; done) | skip
   rename_i fs
   simp only [oY] at h
   obtain ⟨fd,A,he⟩:=h
   cases he
   unfold dz at a
   cases hd2:P.underlying fd.type with
   | none=>rw [hd2] at a; cases a
   | some d2=>
     rw [hd2] at a
     cases hi:P.info? fd.type with
     | none=>simp [MK,hi] at hd2
     | some i=>
       rw [hi] at a
       have G:cs.toArray.extract fd.offset (fd.offset+n)=((cs.drop fd.offset).take n).toArray:=by simp
       cases d2 <;> first
        | (cases a; done)
        | (simp only [mg,fQ] at a; subst a
           simp [execOp,MC,eC hd,A,E,asAgg,part,isAgg,eC hd2,sizeOf,jg hi])
end
end Go.Hb
end
section
namespace Go.Hb
def nA:db:=⟨0,0,false,0,0⟩
def gI (F:aT):db:=F.bw.getD (F.bw.length - 1) nA
noncomputable def jb (F:aT) (ln:Nat) (row:List Tx):Except Nat aT:=
 if row.getD 0 []=e9 then (match kE ln row with | .error e=> .error e | .ok x=> .ok {F with dm:=F.dm++ [x]})
 else if row.getD 0 []=eJ then (match kq F.kind ln row with | .error e=> .error e | .ok x=> .ok {F with aliases:=F.aliases++ [x]})
 else match fF F.kind F.aliases (gI F) ln row with | .error e=> .error e | .ok x=> .ok {F with rules:=F.rules++ [x]}
noncomputable def gO (hd:List Tx) (eof:Nat):Nat→aT→List Rw→Except (Nat×Nat) (aT×List Rw)
 | 0,F,rows=> .ok (F,rows)
 | _+1,F,[]=> .error (eof,116)
 | n+1,F,(ln,row)::rows=>if row.take hd.length≠hd then .error (ln,116) else match jb F ln row with
   | .error e=> .error (ln,e)
   | .ok F'=>gO hd eof n F' rows
theorem yY {row:List Tx} {k:Tx} (h:row≠[]):row.take [k].length= [k]↔row.getD 0 []=k:=by
 cases row with
 | nil=>exact absurd rfl h
 | cons a l=>simp
theorem yZ {row:List Tx} {k j:Tx} :row.take [k,j].length= [k,j]↔2≤row.length∧row.getD 0 []=k∧row.getD 1 []=j:=by
 match row with
 | []=>simp
 | [a]=>simp
 | a::b::l=>simp
section
variable {eof:Nat}
theorem TI:∀ (n:Nat) (F:aT) (rows:List Rw),gO [e9] eof n F rows=match group [e9] kE eof n rows with | .error e=> .error e | .ok r=> .ok ({F with dm:=F.dm++r.1},r.2):=by
 intro n
 induction n with
 | zero=>intro F rows; simp [gO,group]
 | succ n A=>
   intro F rows
   cases rows with
   | nil=>simp [gO,group]
   | cons q rows=>
     obtain ⟨ln,row⟩:=q
     simp only [gO,group]
     by_cases a:row.take [e9].length≠[e9]
     · rw [if_pos a,if_pos a]
     · rw [if_neg a,if_neg a]
       have i:row.getD 0 []=e9:=by
        refine (yY ?_).1<|jq.1 a
        rintro rfl; exact a<|by simp
       unfold jb
       rw [if_pos i]
       cases kE ln row with
       | error e=>rfl
       | ok x=>
         simp only
         rw [A]
         cases group [e9] kE eof n rows with
         | error e=>rfl
         | ok r=>simp only [dF]; rfl
theorem TH:∀ (n:Nat) (F:aT) (rows:List Rw),gO [eJ] eof n F rows=match group [eJ] (kq F.kind) eof n rows with | .error e=> .error e | .ok r=> .ok ({F with aliases:=F.aliases++r.1},r.2):=by
 intro n
 induction n with
 | zero=>intro F rows; simp [gO,group]
 | succ n A=>
   intro F rows
   cases rows with
   | nil=>simp [gO,group]
   | cons q rows=>
     obtain ⟨ln,row⟩:=q
     simp only [gO,group]
     by_cases a:row.take [eJ].length≠[eJ]
     · rw [if_pos a,if_pos a]
     · rw [if_neg a,if_neg a]
       have i:row.getD 0 []=eJ:=by
        refine (yY ?_).1<|jq.1 a
        rintro rfl; exact a<|by simp
       unfold jb
       rw [if_neg (by rw [i]; decide),if_pos i]
       cases kq F.kind ln row with
       | error e=>rfl
       | ok x=>
         simp only
         rw [A]
         cases group [eJ] (kq F.kind) eof n rows with
         | error e=>rfl
         | ok r=>simp only [dF]; rfl
theorem TJ {a h1:Tx} (hk:a≠e9) (C:a≠eJ):∀ (n:Nat) (F:aT) (rows:List Rw),gO [a,h1] eof n F rows=match group [a,h1] (fF F.kind F.aliases<|gI F) eof n rows with | .error e=> .error e | .ok r=> .ok ({F with rules:=F.rules++r.1},r.2):=by
 intro n
 induction n with
 | zero=>intro F rows; simp [gO,group]
 | succ n E=>
   intro F rows
   cases rows with
   | nil=>simp [gO,group]
   | cons q rows=>
     obtain ⟨ln,row⟩:=q
     simp only [gO,group]
     by_cases i:row.take [a,h1].length≠[a,h1]
     · rw [if_pos i,if_pos i]
     · rw [if_neg i,if_neg i]
       have A:row.getD 0 []=a:=(yZ.1<|jq.1 i).2.1
       unfold jb
       rw [if_neg (by rw [A]; exact hk),if_neg (by rw [A]; exact C)]
       cases fF F.kind F.aliases (gI F) ln row with
       | error e=>rfl
       | ok x=>
         simp only
         rw [E]
         show (match group [a,h1] (fF F.kind F.aliases<|gI F) eof n rows with | .error e=>_ | .ok r=>_)=_
         cases group [a,h1] (fF F.kind F.aliases<|gI F) eof n rows with
         | error e=>rfl
         | ok r=>simp only [dF]; rfl
end
section
variable {hd:List Tx} {eof n ln:Nat} {F:aT} {row:List Tx} {rows:List Rw} {T:Except (Nat×Nat) (aT×List Rw)}
theorem TE (h:gO hd eof n F []=T) (hn:0 < n):T= .error (eof,116):=by
 obtain ⟨m,rfl⟩:∃ m,n=m+1:=⟨n - 1,ab⟩
 exact h.symm
theorem BY (h:gO hd eof n F ((ln,row)::rows)=T) (hn:0 < n) (a:row.take hd.length≠hd):T= .error (ln,116):=by
 obtain ⟨m,rfl⟩:∃ m,n=m+1:=⟨n - 1,ab⟩
 rw [← h,gO,if_pos a]
theorem TC {e:Nat} (h:gO hd eof n F ((ln,row)::rows)=T) (hn:0 < n) (a:row.take hd.length=hd) (he:jb F ln row= .error e):T= .error (ln,e):=by
 obtain ⟨m,rfl⟩:∃ m,n=m+1:=⟨n - 1,ab⟩
 rw [← h,gO,if_neg (fun h2=>h2 a),he]
theorem TG {F':aT} (h:gO hd eof n F ((ln,row)::rows)=T) (hn:0 < n) (a:row.take hd.length=hd) (he:jb F ln row= .ok F'):gO hd eof (n - 1) F' rows=T:=by
 obtain ⟨m,rfl⟩:∃ m,n=m+1:=⟨n - 1,ab⟩
 rw [← h,gO,if_neg (fun h2=>h2 a),he]; rfl
theorem TD (h:gO hd eof 0 F rows=T):T= .ok (F,rows):=h.symm
end
def kz (head:List Tx):List Tx:=if head.length=4 then [head.getD 0 [],head.getD 1 []] else [head.getD 0 []]
theorem Is {head:List Tx} (h:head.length≠4):kz head= [head.getD 0 []]:=if_neg h
theorem It {head:List Tx} (h:head.length=4):kz head= [head.getD 0 [],head.getD 1 []]:=if_pos h
theorem Ue {head row:List Tx} (h:row.getD 0 []≠head.getD 0 []):row.take (kz head).length≠kz head:=by
 unfold kz
 split
 · exact fun h2=>h (yZ.1 h2).2.1
 · intro h2
   cases row with
   | nil=>simp at h2
   | cons a l=>exact h<|(yY<|by simp).1 h2
theorem Iv {head row:List Tx} (h4:head.length=4) (h:row.length < 2∨row.getD 1 []≠head.getD 1 []):row.take (kz head).length≠kz head:=by
 rw [It h4]
 intro h2
 have :=yZ.1 h2
 rcases h with h | h
 · omega
 · exact h this.2.2
theorem Iw {head row:List Tx} (a:row.getD 0 []=head.getD 0 []) (i:row≠[]) (h1:head.length=4→2≤row.length∧row.getD 1 []=head.getD 1 []):row.take (kz head).length=kz head:=by
 unfold kz
 split
 · rename_i h4; exact yZ.2 ⟨(h1 h4).1,a,(h1 h4).2⟩
 · exact (yY i).2 a
def pK (k:Tx):Int:=if k∈ec then (ec.idxOf k:Nat) else -1
theorem tp {k:Tx} :(0≤pK k)↔k∈ec:=by
 unfold pK; split
 · rename_i h; exact ⟨fun _=>h,fun _=>by omega⟩
 · rename_i h; exact ⟨fun h2=>by omega,fun h2=>absurd h2 h⟩
end Go.Hb
end
namespace Go.Hb
def nS (ps:List Tx) (w:Tx):Bool:=decide (ps.length≤w.length) && (j5 ps.length).all fun i=>cE (ps.getD i [])<|w.getD i 0
def ql (ps:List Tx) (w:Tx):Bool:=decide (ps.length≤w.length) && nS ps (w.drop<|w.length - ps.length)
noncomputable def iF (r:dd) (w:Tx):Bool:=
 decide ((di r.cond).2=0∧r.strip.length < w.length) &&
  (if r.kind=2 then decide (w.drop (w.length - r.strip.length)=r.strip) && ql (di r.cond).1 w
   else if r.kind=1 then decide (w.take r.strip.length=r.strip) && nS (di r.cond).1 w else false)
noncomputable def dC (r:dd) (w:Tx):Option Tx:=if iF r w=true then some (if r.kind=2 then w.take (w.length - r.strip.length)++r.add else r.add++w.drop r.strip.length) else none
def eY:dd:=⟨0,0,false,[],[],[],[],0⟩
def aV (F:aT) (fs:List Nat) (kind:Nat):List Nat:=(j5 F.rules.length).filter fun i=>decide ((F.rules.getD i eY).kind=kind∧(F.rules.getD i eY).flag∈fs)
def flagsOf (xs:List bF) (e:Int):List Nat:=if 0≤e∧e < xs.length then (xs.getD e.toNat ([],[])).2 else []
def cW (F:aT) (r:Int):List Nat:=if 0≤r∧r < F.rules.length then (F.rules.getD r.toNat eY).next else []
def rA (F:aT) (xs:List bF) (e:Int) (k:Nat):Bool:=decide (F.sp.getD k 0≠0∧F.sp.getD k 0∈flagsOf xs e)
def nD (F:aT) (r:Int):Bool:=decide (0≤r∧r < F.rules.length) && !decide (F.sp.getD 0 0≠0∧F.sp.getD 0 0∈cW F r)
structure bZ where
 kG:Tx
 sQ:Nat
 fst:Int
 snd:Int
 pre:Int
def lF (F:aT) (n:Int):Bool:=decide (n= -1) || (F.rules.getD n.toNat eY).et
def fy (F:aT) (xs:List bF) (e:Nat) (f s p:Int):Bool:=
 if f= -1 then decide (p≠ -1) || !rA F xs e 0
 else if nD F (if s= -1 then f else s)=false then false
 else decide (p= -1) || (lF F f && lF F s && lF F p)
def kt (F:aT) (xs:List bF) (e:Nat) (word:Tx) (f s:Int):List bZ:=if fy F xs e f s (-1)=true then [⟨word,e,f,s,-1⟩] else []
noncomputable def ju (F:aT) (xs:List bF) (e:Nat) (word:Tx) (f s:Int) (p:Nat):Option bZ:=if fy F xs e f s p=true then (dC (F.rules.getD p eY) word).map (fun v=>(⟨v,e,f,s,(p:Int)⟩:bZ)) else none
noncomputable def eD (F:aT) (xs:List bF) (e:Nat) (word:Tx) (f s:Int):List bZ:=kt F xs e word f s++(aV F (flagsOf xs e) 1).filterMap (ju F xs e word f s)
noncomputable def ji (F:aT) (xs:List bF) (e:Nat) (w:Tx) (s:Int) (z:Nat):List bZ:=match dC (F.rules.getD z eY) w with
 | none=> []
 | some v=>eD F xs e v s z
noncomputable def fW (F:aT) (xs:List bF) (e:Nat) (s:Nat):List bZ:=match dC (F.rules.getD s eY) (xs.getD e ([],[])).1 with
 | none=> []
 | some w=>eD F xs e w s (-1)++(aV F (cW F s) 2).flatMap (ji F xs e w s)
noncomputable def lH (F:aT) (xs:List bF) (e:Nat):List bZ:=
 eD F xs e (xs.getD e ([],[])).1 (-1) (-1)++(aV F (flagsOf xs e) 2).flatMap (fW F xs e)
def jR (q:dd):Prop :=q.strip.length≤32∧q.add.length≤32∧q.cond.length≤4800
structure o4 (F:aT):Prop where
 part:∀ (i:Nat) r,F.rules[i]? =some r→∃ c∈F.bw,c.first≤i∧i < c.first+c.count∧r.flag=c.flag∧r.kind=c.kind
 uu:∀ c∈F.bw,c.first+c.count≤F.rules.length∧∀ i,c.first≤i→i < c.first+c.count→∃ r,F.rules[i]? =some r∧r.flag=c.flag∧r.kind=c.kind
 uniq:(F.bw.map (·.flag)).Nodup
theorem Ig {α:Type} {hd:List Tx} {rd:Nat→List Tx→Except Nat α} {eof:Nat} :∀ (n:Nat) (rows:List Rw) (r:List α×List Rw),group hd rd eof n rows= .ok r→∀ x∈r.1,∃ ln row,rd ln row= .ok x:=by
 intro n
 induction n with
 | zero=>intro rows r h; simp only [group,rU] at h; subst h; intro x a; cases a
 | succ n i=>
   intro rows r h
   cases rows with
   | nil=>simp [group] at h
   | cons q rows=>
     obtain ⟨ln,row⟩:=q
     simp only [group] at h
     split at h
     · cases h
     · cases hr:rd ln row with
       | error e=>rw [hr] at h; cases h
       | ok y=>
         rw [hr] at h
         simp only at h
         cases hg:group hd rd eof n rows with
         | error e=>rw [hg] at h; cases h
         | ok A=>
           rw [hg] at h
           simp only [rU] at h
           subst h
           intro x a
           rcases gr.1 a with a | a
           · exact ⟨ln,row,by rw [a]; exact hr⟩
           · exact i rows A hg x a
theorem Iz {eof ln:Nat} {F F':aT} {hs:List Tx} {rows rows':List Rw} {row:List Tx} (a:cw eof F hs rows ln row= .ok (F',rows')):
 (F'.aliases=F.aliases∧F'.bw=F.bw∧F'.rules=F.rules)∨
 (F'.bw=F.bw∧F'.rules=F.rules∧∃ l,F'.aliases=F.aliases++l∧∀ x∈l,∃ kd s,kN kd s= .ok x)∨
 (F'.aliases=F.aliases∧∃ c l,F'.bw=F.bw++ [c]∧F'.rules=F.rules++l∧c.first=F.rules.length∧c.count=l.length∧eG F c.flag=false∧∀ x∈l,∃ ln row,fF F.kind F.aliases c ln row= .ok x):=by
 unfold cw at a
 split at a
 · unfold kj at a; split at a <;> cases a; exact .inl ⟨rfl,rfl,rfl⟩
 split at a
 · unfold kB at a
   split at a
   · cases a
   · split at a <;> cases a; exact .inl ⟨rfl,rfl,rfl⟩
 split at a
 · unfold mF at a; split at a <;> cases a; exact .inl ⟨rfl,rfl,rfl⟩
 split at a
 · unfold mJ at a; split at a <;> cases a; exact .inl ⟨rfl,rfl,rfl⟩
 split at a
 · unfold kR at a
   split at a
   · cases a
   · split at a <;> cases a; exact .inl ⟨rfl,rfl,rfl⟩
 split at a
 · unfold ki at a
   split at a
   · cases a
   · split at a <;> cases a; exact .inl ⟨rfl,rfl,rfl⟩
 split at a
 · unfold jT at a
   split at a
   · cases a
   · split at a
     · cases a
     · split at a
       · cases a
       · rename_i r q
         cases a
         refine .inr<|.inl ⟨aa,aa,r.1,aa,fun x a=> ?_⟩
         obtain ⟨ln,row,h⟩:=Ig _ _ _ q x a
         unfold kq at h
         split at h
         · cases h
         · exact ⟨_,_,h⟩
 · unfold gM at a
   split at a
   · cases a
   · rename_i x i
     split at a
     · cases a
     · split at a
       · cases a
       · split at a
         · cases a
         · split at a
           · cases a
           · rename_i r q
             cases a
             refine .inr<|.inr ⟨aa,_,r.1,aa,aa,aa,(yb _ _ _ q).2.1.symm,?_,fun x a=>Ig _ _ _ q x a⟩
             unfold gH at i
             split at i
             · cases i
             · split at i
               · cases i
               · rename_i h; cases i; simpa using h
theorem EC {Q:aT→Prop} (i:Q hZ) (C:∀ (eof ln:Nat) (F F':aT) (hs:List Tx) (rows rows':List Rw) (row:List Tx),Q F→cw eof F hs rows ln row= .ok (F',rows')→Q F') {s:Tx} {F:aT} (h:fq s= .ok F):Q F:=by
 unfold fq at h
 split at h
 · cases h
 · split at h
   · cases h
   · rename_i f A
     split at h
     · cases h
     · cases h
       have key:∀ (k:Nat) (F F':aT) (hs:List Tx) (rows:List Rw) (eof:Nat),Q F→gJ eof k F hs rows= .ok F'→Q F':=by
        intro k
        induction k with
        | zero=>intro F F' hs rows eof h a; rw [gJ] at a; split at a <;> cases a; exact h
        | succ k G=>
          intro F F' hs rows eof h a
          cases rows with
          | nil=>simp only [gJ,rU] at a; exact a ▸ h
          | cons q rows=>
            rw [gJ] at a
            split at a
            · cases a
            · split at a
              · cases a
              · split at a
                · cases a
                · split at a
                  · cases a
                  · rename_i r E
                    exact G _ _ _ _ _ (C _ _ _ _ _ _ _ _ h E) a
       exact key _ _ _ _ _ _ i A
def kZ (l:List Nat):Prop :=l.Pairwise (· < ·)∧0∉l
theorem Tk {kind:Nat} {s:Tx} (a:(ea kind s).2=0):kZ (ea kind s).1:=by
 unfold ea at a ⊢
 by_cases h1:s= []
 · rw [if_pos h1] at a; cases a
 · rw [if_neg h1] at a ⊢
   by_cases h2:∃ x∈dH kind s,eI kind x=0
   · rw [if_pos h2] at a; cases a
   · rw [if_neg h2] at a ⊢
     by_cases h3:64 < (dH kind s).length
     · rw [if_pos h3] at a; cases a
     · rw [if_neg h3]
       refine ⟨CF _,fun h4=> ?_⟩
       rw [CE,oT] at h4
       exact h2 h4
theorem HW {kind:Nat} {s:Tx} {l:List Nat} (h:kN kind s= .ok l):kZ l:=by
 unfold kN at h
 split at h
 · cases h
 · rename_i a
   cases h
   exact Tk<|jq.1 a
def si (F:aT):Prop :=(∀ l∈F.aliases,kZ l)∧∀ q∈F.rules,kZ q.next∧jR q
theorem Hm {w:Tx} (h:¬gF w≠0):w.length≤32:=by
 unfold gF at h
 split at h
 · exact absurd az h
 · split at h
   · exact absurd az h
   · omega
theorem Wq {b:Bool} {fd p:Tx} (h:eB b fd= .ok p):p.length≤32:=by
 unfold eB at h
 split at h
 · cases h; exact jD _
 · split at h
   · cases h
   · split at h
     · cases h
     · split at h
       · cases h
       · rename_i a; cases h; exact Hm a
theorem NP {r:lC} {p:Tx} (h:jJ r= .ok p):p.length≤32:=by
 unfold jJ at h
 split at h
 · cases h
 · split at h
   · cases h; exact jD _
   · split at h
     · cases h
     · rename_i a; cases h; exact Hm a
theorem Gk (s:Tx):(di s).1.length≤16:=by
 unfold di
 split
 · simp
 · split
   · simp
   · split
     · simp
     · split
       · simp
       · simp only; omega
theorem Xx:∀ {ps:List Tx},ps.length≤16→(l5 ps).length≤4800:=by
 have key:∀ ps:List Tx,(ps.flatMap fun t=>gR<|cE t).length≤ps.length*300:=by
  intro ps
  induction ps with
  | nil=>exact jD _
  | cons t ps a=>
    have :=Db<|cE t
    rw [qU,bL,cT]; omega
 intro ps h
 unfold l5
 split
 · simp
 · have :=key ps; omega
theorem Q9 {row:List Tx} {c:Tx} (h:kL row= .ok c):c.length≤4800:=by
 unfold kL at h
 split at h
 · split at h
   · cases h
   · split at h
     · cases h
     · cases h; exact Xx<|Gk _
 · cases h; simp
theorem uQ:kZ []:=⟨.nil,tZ⟩
theorem Hw {kind:Nat} {al:List (List Nat)} {s:Tx} {l:List Nat} (a:∀ l∈al,kZ l) (h:fR kind al s= .ok l):kZ l:=by
 unfold fR at h
 split at h
 · exact HW h
 · split at h
   · cases h
   · split at h
     · cases h
     · cases h
       rename_i n _ _
       rw [cV]
       cases hg:al[n - 1]? with
       | none=>exact uQ
       | some x=>exact a x<|iP hg
theorem C8 {kind ln:Nat} {al:List (List Nat)} {c:db} {row:List Tx} {q:dd} (A:∀ l∈al,kZ l) (h:fF kind al c ln row= .ok q):(kZ q.next∧jR q)∧q.flag=c.flag∧q.kind=c.kind∧q.et=c.et:=by
 unfold fF at h
 split at h
 · cases h
 · split at h
   · cases h
   · rename_i hp
     split at h
     · cases h
     · rename_i i
       split at h
       · cases h
       · rename_i nx a
         split at h
         · cases h
         · rename_i C
           cases h
           refine ⟨⟨?_,Wq hp,NP i,Q9 C⟩,aa,aa,aa⟩
           unfold kS at a
           split at a
           · split at a
             · cases a
             · exact Hw A a
           · cases a; exact uQ
theorem Bo {cs:List db} {x:Nat} (h:(dY cs x).isSome=false):∀ c∈cs,c.flag≠x:=fun c a i=>by
 unfold dY at h
 have h1:cs.find? (fun c=>decide (c.flag=x))=none:=by
  cases h2:cs.find? (fun c=>decide (c.flag=x)) with
  | none=>rfl
  | some y=>rw [h2] at h; cases h
 have :=List.find?_eq_none.1 h1 c a
 simp [i] at this
theorem zO {s:Tx} {F:aT} (h:fq s= .ok F):si F∧o4 F:=by
 refine EC (Q:=fun F=>si F∧o4 F) ⟨⟨fun l U=>(by cases U),fun l U=>by cases U⟩,⟨fun i r h=>(by cases h),fun c h=>(by cases h),.nil⟩⟩ ?_ h
 rintro eof ln F F' hs rows rows' row ⟨C,E⟩ q
 refine ⟨?_,?_⟩
 · rcases Iz q with ⟨h1,_,h3⟩ | ⟨_,h2,l,h3,h4⟩ | ⟨h1,c,l,_,h3,_,_,_,h4⟩
   · exact ⟨h1 ▸ C.1,h3 ▸ C.2⟩
   · refine ⟨fun x q=> ?_,h2 ▸ C.2⟩
     rw [h3] at q
     rcases jz.1 q with q | q
     · exact C.1 x q
     · obtain ⟨_,_,h⟩:=h4 x q; exact HW h
   · refine ⟨h1 ▸ C.1,fun x q=> ?_⟩
     rw [h3] at q
     rcases jz.1 q with q | q
     · exact C.2 x q
     · obtain ⟨_,_,h⟩:=h4 x q; exact (C8 C.1 h).1
 · rcases Iz q with ⟨_,h2,h3⟩ | ⟨h2,h3,_⟩ | ⟨_,c,l,h2,h3,h4,h5,O,Z⟩
   · exact ⟨by rw [h2,h3]; exact E.part,by rw [h2,h3]; exact E.uu,by rw [h2]; exact E.uniq⟩
   · exact ⟨by rw [h2,h3]; exact E.part,by rw [h2,h3]; exact E.uu,by rw [h2]; exact E.uniq⟩
   · have V:∀ i,F.rules.length≤i→i < F.rules.length+l.length→∃ r,F'.rules[i]? =some r∧r.flag=c.flag∧r.kind=c.kind:=fun i G J=>by
      have A:i - F.rules.length < l.length:=ab
      refine ⟨l[i - F.rules.length],?_,?_⟩
      · rw [h3,mN G,cD A]
      · obtain ⟨_,_,h⟩:=Z _ (List.getElem_mem A); exact ⟨(C8 C.1 h).2.1,(C8 C.1 h).2.2.1⟩
     refine ⟨fun i r G=> ?_,fun d hd=> ?_,?_⟩
     · by_cases J:i < F.rules.length
       · rw [h3,me J] at G
         obtain ⟨d,hd,A⟩:=E.part i r G
         exact ⟨d,by rw [h2]; exact List.mem_append_left _ hd,A⟩
       · have A:i < F.rules.length+l.length:=by
          have :=(fJ.1 G).1; rw [h3,bL] at this; exact this
         obtain ⟨ag,I,M⟩:=V i ab A
         rw [G] at I; cases I
         exact ⟨c,by rw [h2]; exact List.mem_append_right _ (j4.2 aa),ab,ab,M⟩
     · rw [h2] at hd
       rcases jz.1 hd with hd | hd
       · obtain ⟨G,J⟩:=E.uu d hd
         refine ⟨by rw [h3,bL]; omega,fun i A I=> ?_⟩
         obtain ⟨r,M,Y⟩:=J i A I
         exact ⟨r,by rw [h3,me ab]; exact M,Y⟩
       · obtain rfl :=j4.1 hd
         refine ⟨by rw [h3,bL]; omega,fun i A I=>V i ab ab⟩
     · rw [h2,iq,Ek]
       refine ⟨E.uniq,by simp,fun a ac b ae=> ?_⟩
       obtain ⟨d,hd,rfl⟩:=oT.1 ac
       obtain rfl :b=c.flag:=by simpa using ae
       unfold eG at O
       rw [nm] at O
       exact Bo O.2 d hd
theorem Si {F:aT} {row:List Tx} {x:bF} (a:si F) (h:fV F row= .ok x):kZ x.2:=by
 unfold fV at h
 split at h
 · cases h
 · split at h
   · cases h
   · split at h
     · cases h
     · split at h
       · cases h
       · split at h
         · cases h; exact uQ
         · split at h
           · cases h
           · rename_i set hs
             split at h
             · cases h; exact Hw a.1 hs
             · cases h
theorem Sq {F:aT} (A:si F) {eof:Nat} :∀ {n:Nat} {rows:List Rw} {r:List bF},e7 F eof n rows= .ok r→∀ x∈r,kZ x.2:=by
 intro n
 induction n with
 | zero=>
   intro rows r h
   cases rows with
   | nil=>rw [e7] at h; cases h; intro x a; cases a
   | cons q rows=>rw [e7] at h; cases h
 | succ n C=>
   intro rows r h
   cases rows with
   | nil=>rw [e7] at h; cases h
   | cons q rows=>
     rw [e7] at h
     split at h
     · cases h
     · rename_i x a
       split at h
       · cases h
       · rename_i h2
         cases h
         intro y i
         rcases gr.1 i with rfl | i
         · exact Si A a
         · exact C h2 y i
theorem RX {F:aT} (a:si F) {t:Tx} {xs:List bF} (h:ff F t= .ok xs):∀ x∈xs,kZ x.2:=by
 unfold ff at h
 split at h
 · cases h
 · split at h
   · cases h
   · split at h
     · cases h
     · split at h
       · cases h
       · exact Sq a h
theorem Sk {F:aT} {row:List Tx} {x:bF} (h:fV F row= .ok x):1≤x.1.length:=by
 unfold fV at h
 split at h
 · cases h
 · split at h
   · cases h
   · split at h
     · cases h
     · rename_i i
       have h1:1≤(bA<|row.getD 0 []).1.length:=by
        rcases Nat.eq_zero_or_pos (bA<|row.getD 0 []).1.length with a | a
        · exact absurd (Or.inr<|fS a) i
        · exact a
       split at h
       · cases h
       · split at h
         · cases h; exact h1
         · split at h
           · cases h
           · split at h
             · cases h; exact h1
             · cases h
theorem Su {F:aT} {eof:Nat} :∀ {n:Nat} {rows:List Rw} {r:List bF},e7 F eof n rows= .ok r→∀ x∈r,1≤x.1.length:=by
 intro n
 induction n with
 | zero=>
   intro rows r h
   cases rows with
   | nil=>rw [e7] at h; cases h; intro x a; cases a
   | cons q rows=>rw [e7] at h; cases h
 | succ n A=>
   intro rows r h
   cases rows with
   | nil=>rw [e7] at h; cases h
   | cons q rows=>
     rw [e7] at h
     split at h
     · cases h
     · rename_i x a
       split at h
       · cases h
       · rename_i h2
         cases h
         intro y i
         rcases gr.1 i with rfl | i
         · exact Sk a
         · exact A h2 y i
theorem R5 {F:aT} {t:Tx} {xs:List bF} (h:ff F t= .ok xs):∀ x∈xs,1≤x.1.length:=by
 unfold ff at h
 split at h
 · cases h
 · split at h
   · cases h
   · split at h
     · cases h
     · split at h
       · cases h
       · exact Su h
theorem rB {F:aT} {fs:List Nat} {k i:Nat} :i∈aV F fs k↔i < F.rules.length∧(F.rules.getD i eY).kind=k∧(F.rules.getD i eY).flag∈fs:=by
 unfold aV; simp
theorem Jq (F:aT) (fs:List Nat) (k:Nat):(aV F fs k).Pairwise (· < ·):=Zv _ Ng
theorem rE (F:aT) (fs:List Nat) (k:Nat):(aV F fs k).length≤F.rules.length:=by
 unfold aV; have :=zB (fun i=>decide ((F.rules.getD i eY).kind=k∧(F.rules.getD i eY).flag∈fs)) (j5 F.rules.length); simpa using this
def gE (F:aT) (k f:Nat):List Nat:=match dY F.bw f with
 | some c=>if c.kind=k then (j5 c.count).map (c.first+ ·) else []
 | none=> []
theorem Hh {cs:List db} {x:Nat} {c:db} (h:dY cs x=some c):c∈cs∧c.flag=x:=⟨List.mem_of_find?_eq_some h,by simpa using List.find?_some h⟩
theorem SU:∀ {cs:List db},(cs.map (·.flag)).Nodup→∀ c∈cs,dY cs c.flag=some c:=by
 intro cs
 induction cs with
 | nil=>intro _ c h; cases h
 | cons d cs q=>
   intro h c a
   rw [tW,List.nodup_cons] at h
   unfold dY
   rw [List.find?_cons]
   rcases gr.1 a with rfl | a
   · simp
   · have i:¬d.flag=c.flag:=fun h2=>h.1<|oT.2 ⟨c,a,h2.symm⟩
     rw [decide_eq_false i]
     exact q h.2 c a
theorem yt {F:aT} (a:o4 F) {k f i:Nat} :i∈gE F k f↔i < F.rules.length∧(F.rules.getD i eY).kind=k∧(F.rules.getD i eY).flag=f:=by
 unfold gE
 constructor
 · intro h
   split at h
   · rename_i c q
     split at h
     · rename_i hk
       obtain ⟨j,I,rfl⟩:=oT.1 h
       rw [tY] at I
       have h1:=Hh q
       obtain ⟨h2,h3⟩:=a.uu c h1.1
       obtain ⟨r,h4,h5,A⟩:=h3 (c.first+j) ab ab
       refine ⟨ab,?_⟩
       rw [cV,h4]
       exact ⟨A.trans hk,h5.trans h1.2⟩
     · cases h
   · cases h
 · rintro ⟨h1,h2,h3⟩
   have h4:F.rules[i]? =some (F.rules.getD i eY):=by rw [cV,cD h1]; rfl
   obtain ⟨c,q,h5,A,E,G⟩:=a.part i _ h4
   have C:=SU a.uniq c q
   rw [← E,h3] at C
   rw [C]
   simp only
   rw [if_pos (G.symm.trans h2)]
   exact oT.2 ⟨i - c.first,tY.2 ab,ab⟩
theorem QR (F:aT) (k f:Nat):(gE F k f).Nodup:=by
 unfold gE
 split
 · split
   · rw [List.Nodup,Nh]
     exact Zw (fun h=>by omega) Ng
   · exact .nil
 · exact .nil
theorem Jo {F:aT} (q:o4 F) {k:Nat} :∀ {fs:List Nat},fs.Pairwise (· < ·)→(fs.flatMap<|gE F k).Nodup∧∀ i,i∈fs.flatMap (gE F k)↔i∈aV F fs k:=by
 intro fs h
 refine ⟨?_,fun i=> ?_⟩
 · induction fs with
   | nil=>exact .nil
   | cons f fs J=>
     rw [List.pairwise_cons] at h
     rw [qU,Ek]
     refine ⟨QR F k f,J h.2,fun a C b A E=> ?_⟩
     subst E
     obtain ⟨g,I,A⟩:=zD.1 A
     have h1:=(yt q).1 C
     have h2:=(yt q).1 A
     have :=h.1 g I
     omega
 · rw [zD,rB]
   constructor
   · rintro ⟨f,G,hi⟩
     have h1:=(yt q).1 hi
     exact ⟨h1.1,h1.2.1,h1.2.2 ▸ G⟩
   · rintro ⟨h1,h2,h3⟩
     exact ⟨_,h3,(yt q).2 ⟨h1,h2,aa⟩⟩
theorem XJ {F:aT} (A:o4 F) {fs:List Nat} (h:fs.Pairwise (· < ·)) (k:Nat):((fs.flatMap<|gE F k).map fun i:Nat=>(i:Int)).mergeSort (fun x y=>decide (x≤y))=(aV F fs k).map fun i:Nat=>(i:Int):=by
 obtain ⟨h1,h2⟩:=Jo A (k:=k) h
 have hn:=Jq F fs k
 have hp:=(List.mergeSort_perm ((fs.flatMap<|gE F k).map fun i:Nat=>(i:Int)) fun x y=>decide (x≤y)).trans<|((List.perm_ext_iff_of_nodup h1<|hn.imp fun h=>by omega).2 h2).map _
 refine List.Perm.eq_of_pairwise (le:=fun x y:Int=>decide (x≤y)=true) ?_ (List.pairwise_mergeSort ?_ ?_ _) ?_ hp
 · intro a b _ _ h q; have :=of_decide_eq_true h; have :=of_decide_eq_true q; omega
 · intro a b c h q; have :=of_decide_eq_true h; have :=of_decide_eq_true q; exact decide_eq_true ab
 · intro a b; simp only [Bool.or_eq_true,decide_eq_true_eq]; omega
 · rw [Nh]; exact hn.imp fun h=>decide_eq_true ab
def iZ (l:List bZ):Nat:=(l.map fun d=>d.kG.length).sum
theorem E5 (a b:List bZ):iZ (a++b)=iZ a+iZ b:=by unfold iZ; rw [iq,List.sum_append]
theorem E6 (d:bZ):iZ [d]=d.kG.length:=by simp [iZ]
def kO (most limit:Int) (a:List bZ):Bool:=decide (most≤(a.length:Int)∨limit < (iZ a:Nat))
def rC (most limit:Int) (a:List bZ) (d:bZ):List bZ:=if kO most limit a=true then a else a++ [d]
def gP (most limit:Int) (a L:List bZ):List bZ:=L.foldl (rC most limit) a
theorem uS (most limit:Int) (a L M:List bZ):gP most limit a (L++M)=gP most limit (gP most limit a L) M:=List.foldl_append
theorem Ci (most limit:Int) (a:List bZ):gP most limit a []=a:=rfl
theorem yi {most limit:Int} {a:List bZ} (h:kO most limit a=true):∀ L,gP most limit a L=a:=by
 intro L
 induction L with
 | nil=>rfl
 | cons d L i=>rw [gP,r6,rC,if_pos h]; exact i
theorem UU {most limit:Int} (c:Nat) (M:most*c≤limit) (hm:0≤most):∀ (L a:List bZ),(∀ d∈L,d.kG.length≤c)→a.length≤most→iZ a≤a.length*c→gP most limit a L=a++L.take (most.toNat - a.length):=by
 intro L
 induction L with
 | nil=>intro a _ _ _; simp [Ci]
 | cons d L C=>
   intro a i E G
   by_cases h:(a.length:Int)=most
   · rw [yi (decide_eq_true<|.inl ab),show most.toNat - a.length=0 by omega]; simp
   · have I:a.length*c≤(most.toNat)*c:=sc c ab
     have J:((most.toNat*c:Nat):Int)=most*c:=by rw [Int.natCast_mul,Int.toNat_of_nonneg hm]
     have q:kO most limit a=false :=decide_eq_false fun h2=>by rcases h2 with h2 | h2 <;> omega
     rw [gP,r6,rC,if_neg (by rw [q]; exact ei)]
     have :=C (a++ [d]) (fun x A=>i x<|tX _ A) (by rw [bL,e5]; omega) (by
      rw [E5,E6,bL,e5,Nat.add_mul]
      have :=i d (List.mem_cons_self ..); omega)
     rw [gP] at this
     rw [this,bL,e5,show most.toNat - a.length=(most.toNat - (a.length+1))+1 by omega,List.take_succ_cons,dF]; rfl
theorem N7 {r:dd} {w v:Tx} (h:dC r w=some v):r.strip.length < w.length∧v=(if r.kind=2 then w.take (w.length - r.strip.length)++r.add else r.add++w.drop r.strip.length):=by
 unfold dC at h
 split at h
 · rename_i a
   unfold iF at a
   rw [gU,decide_eq_true_eq] at a
   cases h
   exact ⟨a.1.2,aa⟩
 · cases h
theorem qa {r:dd} {w v:Tx} (a:r.add.length≤32) (h:dC r w=some v):1≤v.length∧v.length≤w.length+32:=by
 obtain ⟨h1,rfl⟩:=N7 h
 split
 · rw [bL,dT]; omega
 · rw [bL,fP]; omega
theorem C6 {F:aT} (a:∀ q∈F.rules,jR q) (i:Nat):jR (F.rules.getD i eY):=by
 rw [cV]
 cases h:F.rules[i]? with
 | none=>exact ⟨jD _,jD _,jD _⟩
 | some q=>exact a q<|iP h
theorem AO {F:aT} (a:∀ q∈F.rules,jR q) {xs:List bF} {e:Nat} {word:Tx} {f s:Int} (h1:1≤word.length):∀ d∈eD F xs e word f s,1≤d.kG.length∧d.kG.length≤word.length+32∧d.sQ=e∧d.fst=f∧d.snd=s:=by
 intro d hd
 unfold eD at hd
 rcases jz.1 hd with hd | hd
 · unfold kt at hd
   split at hd
   · obtain rfl :=j4.1 hd
     exact ⟨h1,Nat.le_add_right _ _,aa,aa,aa⟩
   · cases hd
 · obtain ⟨p,_,hp⟩:=List.mem_filterMap.1 hd
   unfold ju at hp
   split at hp
   · obtain ⟨v,i,rfl⟩:=oY.1 hp
     have :=qa (C6 a p).2.1 i
     exact ⟨this.1,this.2,aa,aa,aa⟩
   · cases hp
theorem RT {F:aT} (a:∀ q∈F.rules,jR q) {xs:List bF} {e:Nat} (h1:1≤(xs.getD e ([],[])).1.length):∀ d∈lH F xs e,1≤d.kG.length∧d.kG.length≤(xs.getD e ([],[])).1.length +96∧d.sQ=e:=by
 intro d hd
 unfold lH at hd
 rcases jz.1 hd with hd | hd
 · have :=AO a h1 d hd; exact ⟨this.1,ab,this.2.2.1⟩
 · obtain ⟨s,_,hd⟩:=zD.1 hd
   unfold fW at hd
   split at hd
   · cases hd
   · rename_i w hw
     have i:=qa (C6 a s).2.1 hw
     rcases jz.1 hd with hd | hd
     · have :=AO a i.1 d hd; exact ⟨this.1,ab,this.2.2.1⟩
     · obtain ⟨z,_,hd⟩:=zD.1 hd
       unfold ji at hd
       split at hd
       · cases hd
       · rename_i v C
         have A:=qa (C6 a z).2.1 C
         have :=AO a A.1 d hd; exact ⟨this.1,ab,this.2.2.1⟩
end Go.Hb
section
namespace Go.Hb
structure Gw (B:Nat) (fp:Nat→Prop) (w:World) (fp':Nat→Prop) (w':World):Prop where
 sub:∀ k,fp' k→fp k∨w.heap.size≤k
 cz:∀ (k:Nat) (cs:Array Value) (e:Nat) (z:Nat×Nat),B≤k→¬fp k→w.heap[k]? =some (.cells cs e z)→w'.heap[k]? =some (.cells cs e z)
 size:w.heap.size≤w'.heap.size
section
variable {B B':Nat} {fp fp' fp'':Nat→Prop} {w w' w'':World}
theorem Gw.trans (h:Gw B fp w fp' w') (a:Gw B fp' w' fp'' w''):Gw B fp w fp'' w'':=
 ⟨fun k hk=>(a.sub k hk).elim (h.sub k) (fun h2=> .inr<|gd h.size h2),
  fun k cs e z i hn hk=>a.cz k cs e z i (fun h2=>(h.sub k h2).elim hn fun h3=>by have :=(cQ.1 hk).1; omega) (h.cz k cs e z i hn hk),gd h.size a.size⟩
theorem Gw.mono (h:Gw B fp w fp' w') (a:B≤B'):Gw B' fp w fp' w':=⟨h.sub,fun k cs e z hk=>h.cz k cs e z (gd a hk),h.size⟩
theorem Gw.md {G:Nat→Prop} (hm:Md G w w') (a:∀ k,G k→fp k∨k < B) (hs:∀ k,fp' k→fp k∨w.heap.size≤k):Gw B fp w fp' w':=
 ⟨hs,fun k cs e z i hn hk=>by rw [hm.cz k (cQ.1 hk).1 (fun h=>(a k h).elim hn fun h2=>by omega)]; exact hk,hm.size⟩
theorem Gw.wk (hm:Wk w w'):Gw B fp w fp w':=Gw.md hm (fun _ h=>h.elim) fun _ h=> .inl h
theorem Gw.own {e size n:Nat} {v:Value} {xs:List Value} (h:Gw B fp w fp' w') (a:w.ownsRow B e size v n xs) (q:∀ k,v.ownBlock=some k→¬fp k):w'.ownsRow B e size v n xs∧∀ k,v.ownBlock=some k→¬fp' k:=by
 refine ⟨⟨a.1,?_⟩,fun k hk h2=>(h.sub k h2).elim (q k hk) fun h3=>by have :=(dG a hk).2; omega⟩
 rcases a.2 with h1 | ⟨g,cap,cur,A,i,C,h1⟩
 · exact .inl h1
 · exact .inr ⟨g,cap,cur,A,i,h.cz g cur e (0,0) i (q g<|by rw [A]; rfl) C,h1⟩
theorem Gw.aM {k e:Nat} {cs:Array Value} {z:Nat×Nat} (h:Gw B fp w fp' w') (hk:w.heap[k]? =some (.cells cs e z)) (i:B≤k) (a:¬fp k):w'.heap[k]? =some (.cells cs e z)∧¬fp' k:=
 ⟨h.cz k cs e z i a hk,fun h2=>(h.sub k h2).elim a fun h3=>by have :=(cQ.1 hk).1; omega⟩
end
def zM {α:Type} (B:Nat) (a:List α→(Nat→Prop)→World→Prop):Prop := ∀ pre fp W W' (F:Nat→Prop),a pre fp W→Md F W W'→(∀ k,F k→B≤k∧∀ cur e z,W.heap[k]? =some (.cells cur e z)→¬fp k)→a pre fp W'
section
variable {F fp:Nat→Prop} {W W':World} {B:Nat}
theorem gT {b e:Nat} {cs:Array Value} {z:Nat×Nat} (h:W.heap[b]? =some (.cells cs e z)) (hm:Md F W W') (i:b < B) (a:∀ k,F k→B≤k∧∀ cur e z,W.heap[k]? =some (.cells cur e z)→¬fp k):W'.heap[b]? =some (.cells cs e z):=by
 rw [hm.cz b (cQ.1 h).1 (fun hk=>by have :=(a b hk).1; omega)]; exact h
theorem Lc {B' e size n:Nat} {v:Value} {xs:List Value} (h:W.ownsRow B' e size v n xs) (hm:Md F W W') (A:∀ k,v.ownBlock=some k→fp k) (a:∀ k,F k→B≤k∧∀ cur e z,W.heap[k]? =some (.cells cur e z)→¬fp k):W'.ownsRow B' e size v n xs:=
 cX h hm fun k hk i=>by
  rcases h.2 with ⟨rfl,_⟩ | ⟨g,cap,C,rfl,_,q,_⟩
  · simp [iU] at hk
  · simp only [iU,fQ] at hk; subst hk; exact (a _ i).2 _ _ _ q<|A _ rfl
theorem Ld {w:World} (h:Wk w W) (hm:Md F W W') (q:w.heap.size≤B) (a:∀ k,F k→B≤k∧∀ cur e z,W.heap[k]? =some (.cells cur e z)→¬fp k):Wk w W':=Md.trans' h hm fun k hk i=>by have :=(a k i).1; omega
end
def NM {α:Type} (B:Nat) (a:Bool→List α→(Nat→Prop)→World→Prop):Prop := ∀ b pre fp W W' (F:Nat→Prop),a b pre fp W→Md F W W'→(∀ k,F k→B≤k∧¬fp k∧∃ cs e z,W.heap[k]? =some (.cells cs e z))→a b pre fp W'
structure Yc {α:Type} (P:Program) (l B:Nat) (encs:α→Array Value) (xs:List α) (Cap:World→Prop) (J:Bool→List α→(Nat→Prop)→World→Prop):Prop where
 cap:∀ b pre fp W,J b pre fp W→Cap W
 lt:∀ b pre fp W,J b pre fp W→∀ k,fp k→k < W.heap.size
 st:NM B J
 yl:∀ pre x rest fp W1,xs=pre++x::rest→J true pre fp W1→YieldAt jj 0 P l (encs x) W1 fun e W'=> ∃ b,e= .returned (.bool b)∧∃ fp',J b (pre++ [x]) fp' W'∧Gw B fp W1 fp' W'
theorem Yc.wk {α:Type} {P:Program} {l B:Nat} {q:α→Array Value} {xs:List α} {i:World→Prop} {a:Bool→List α→(Nat→Prop)→World→Prop} (h:Yc P l B q xs i a) {b:Bool} {pre:List α} {fp:Nat→Prop} {W W':World} (A:a b pre fp W) (hm:Wk W W'):a b pre fp W':=
 h.st _ _ _ _ _ _ A hm fun _ hk=>hk.elim
theorem Gw.Jc {B:Nat} {fp fp':Nat→Prop} {w a w':World} (h:Gw B fp w fp' a) {G:Nat→Prop} (hm:Md G a w') (q:∀ k,G k→w.heap.size≤k):Gw B fp w fp' w':=
 ⟨h.sub,fun k cs e z i hn hk=>by
  have h1:=(cQ.1 hk).1
  rw [hm.cz k (Nat.lt_of_lt_of_le h1 h.size) (fun h2=>by have :=q k h2; omega)]; exact h.cz k cs e z i hn hk,gd h.size hm.size⟩
theorem Yc.vg {α:Type} {P:Program} {l B:Nat} {C:α→Array Value} {A:List α} {i:World→Prop} {a:Bool→List α→(Nat→Prop)→World→Prop} (h:Yc P l B C A i a) {b:Bool} {pre:List α} {fp:Nat→Prop} {W W':World} (G:a b pre fp W) {k e:Nat} {cs:Array Value} {z:Nat×Nat} (hk:W.heap[k]? =some (.cells cs e z)) (E:B≤k) (I:¬fp k) (hm:Md (fun q=>q=k) W W'):a b pre fp W':=
 h.st _ _ _ _ _ _ G hm fun q J=>by subst J; exact ⟨E,I,_,_,_,hk⟩
theorem Yc.YX {α:Type} {P:Program} {l B:Nat} {A:α→Array Value} {xs:List α} {a i:World→Prop} {q:Bool→List α→(Nat→Prop)→World→Prop} (h:Yc P l B A xs a q) (E:∀ W,a W→i W):Yc P l B A xs i q:=
 ⟨fun b pre fp W C=>E W (h.cap b pre fp W C),h.lt,h.st,h.yl⟩
def zK {α:Type} (P:Program) (A:Nat) (C:Array Value) (q:α→Array Value) (xs:List α) (i:World→Prop):Prop :=
 ∀ (l:Nat) (a:Bool→List α→(Nat→Prop)→World→Prop) (W:World),a true [] (fun _=>False) W→Yc P l W.heap.size q xs i a→
   Calls P A (#[.func (.yield l) #[] #[]]++C) W fun e W'=>(∃ v,e= .returned v)∧∃ b pre fp,a b pre fp W'∧pre <+:xs∧(b=true→pre=xs)
def W6 (id B:Nat) (fp:Nat→Prop) (W:World) (R:(Nat→Prop)→World→Prop) (X:Bool→(Nat→Prop)→World→Prop):Exit→(Nat→Value)→World→Prop
 | .normal,_,w=>gk W w∧∃ fp',Gw B fp W fp' w∧R fp' w
 | .exit i,_,w=>i=id∧gk W w∧∃ fp',Gw B fp W fp' w∧X false fp' w
 | .ret,_,w=>gk W w∧∃ fp',Gw B fp W fp' w∧X true fp' w
 | _,_,_=>False
def Ch (id:Nat):Bool→Code
 | true => .ret
 | false => .exit id
theorem z7 {α:Type} {f:α→List Value} {e:Nat} (x:α) (b:Nat) (W W':World) (F:Nat→Prop) (h:W.heap[b]? =some (.cells (f x).toArray e (0,0))) (hm:Md F W W') (a:∀ k,F k→∀ cur e z,W.heap[k]?≠some (.cells cur e z)):W'.heap[b]? =some (.cells (f x).toArray e (0,0)):=by
 rw [hm.cz b (cQ.1 h).1 (fun hk=>a b hk _ _ _ h)]; exact h
def JX {α:Type} (a:List α→(Nat→Prop)→World→Prop) (X:Bool→List α→(Nat→Prop)→World→Prop) (S:World→Prop) (T:Bool→World→Prop):Bool→List α→(Nat→Prop)→World→Prop
 | true,pre,fp,W=>a pre fp W∧S W
 | false,pre,fp,W=> ∃ r,X r pre fp W∧T r W
theorem C3 {α:Type} {P:Program} {id n:Nat} {Y:List Deferred} {g:Operand} {ps:Array Tmp} {ar body:Code} {Z:List Nat} {σ:Nat→Value} {w:World} {B:Exit→Act→World→Prop} {aj:Nat} {ak:Array Value}
 (ag:α→Array Value) (xs:List α) (aw:World→Prop) (q:List α→(Nat→Prop)→World→Prop) (X:Bool→List α→(Nat→Prop)→World→Prop) (aU:ev ⟨n,Y,Z,none⟩ σ g= .func (.func aj) #[] ak) (aR:bm P aj) (a2:∀ x,(ag x).size=ps.size)
 (aV:zK P aj ak ag xs aw) (aL:q [] (fun _=>False) w) (aA:∀ pre fp W,q pre fp W→aw W∧∀ k,fp k→k < W.heap.size) (aB:∀ r pre fp W,X r pre fp W→aw W∧∀ k,fp k→k < W.heap.size) (ac:zM w.heap.size q) (an:∀ r,zM w.heap.size (X r)) (A:α→Nat→World→Prop) (aJ:∀ x b W W' (F:Nat→Prop),A x b W→Md F W W'→(∀ k,F k→∀ cur e z,W.heap[k]?≠some (.cells cur e z))→A x b W') (aG:α→Nat→Nat→Value)
 (aP:∀ (l:Nat) (x:α) (W:World) (K:(Nat→Value)→World→Prop),(∀ b W',Wk W W'→A x b W'→K (aG x b) W')→dQ P ⟨n,[],[],some l⟩ ar (lM K fun _ _ _=>False) ((ps.toList.zip (ag x).toList).foldl (fun s p=>dB s p.1 p.2) σ) W)
 (aQ:∀ (l:Nat) (pre:List α) (x:α) (rest:List α) (fp:Nat→Prop) (b:Nat) (W:World),xs=pre++x::rest→q pre fp W→A x b W→dQ P ⟨n,[],[],some l⟩ body (W6 id w.heap.size fp W (q<|pre++ [x]) fun r=>X r<|pre++ [x]) (aG x b) W)
 (hd:∀ (D:Nat) (W:World),w.heap.size≤D→(∃ fp,q xs fp W)→W.heap[D]? =some (.deferred<|some [])→qb ⟨n,{target:= .collected D,args:= #[]} ::Y,Z,none⟩ B .normal σ W)
 (a5:∀ (D:Nat) (W:World) (pre:List α),w.heap.size≤D→pre <+:xs→(∃ fp,X false pre fp W)→W.heap[D]? =some (.deferred<|some [])→qb ⟨n,{target:= .collected D,args:= #[]} ::Y,Z,none⟩ B .normal σ W)
 (a6:∀ (D:Nat) (W:World) (pre:List α),w.heap.size≤D→pre <+:xs→(∃ fp,X true pre fp W)→W.heap[D]? =some (.deferred<|some [])→qb ⟨n,{target:= .collected D,args:= #[]} ::Y,Z,none⟩ B .ret σ W):
 nV P ⟨n,Y,Z,none⟩ (.block id<|.rangeFunc g ps ar body) B σ w:=by
 refine wpIn_block<|wpIn_rangeFunc ?_
 intro fn _
 obtain ⟨rc,O⟩:∃ rc:LoopState→Option Code→Loop,rc=fun st a7=> {state:=st,pending:=a7,fn,tmps:=(act ⟨n,Y,Z,none⟩ σ).tmps,params:=ps,assign:=ar,body,defers:=w.heap.size} :=⟨_,rfl⟩
 obtain ⟨G,am⟩:∃ G,(w.alloc<|.deferred<|some []).alloc (.loop<|rc .ready none)=G:=⟨_,rfl⟩
 have aO:G.heap[w.heap.size+1]? =some (.loop<|rc .ready none):=by
  rw [← am]; have :=zu (w.alloc<|.deferred<|some []) (.loop<|rc .ready none); rwa [MT] at this
 have aN:G.heap[w.heap.size]? =some (.deferred<|some []):=by
  rw [← am]; exact (Below.heap_alloc _ _ _<|by simp).trans<|zu w _
 have a9:G.heap.size=w.heap.size+2:=by rw [← am]; simp
 have hn:∀ (W:World) (o:Obj),Wk W (W.alloc o):=fun W o=>(CC W o).md
 have aM:q [] (fun _=>False) G:=by rw [← am]; exact ac _ _ _ _ _ (ac _ _ _ _ _ aL (hn _ _) fun _ h=>h.elim) (hn _ _) fun _ h=>h.elim
 have aS:(act ⟨n,Y,Z,none⟩ σ).eval g= .func (.func aj) #[] ak:=by rw [hU]; exact aU
 refine ⟨w.heap.size+1,[{target:= .collected w.heap.size,args:= #[]}],G,{target:= .fn (.func aj) ak,args:= #[.func (.yield<|w.heap.size+1) #[] #[]]},G,aj,
  #[.func (.yield<|w.heap.size+1) #[] #[]]++ak,G,?_,?_,fun _ _=>trivial,?_,fun aI=>(by cases aI),?_⟩
 · rw [← am,O]; exact run_enterLoop_outer _ _ _ _ _
 · simp only [resolve,aS]
   simp [go_sem]
 · have :=aR (#[.func (.yield<|w.heap.size+1) #[] #[]]++ak) G
   simp [invoke,go_sem,this]
 ·
  have ai:∀ (q:List α→(Nat→Prop)→World→Prop),zM w.heap.size q→∀ (pre:List α) (fp:Nat→Prop) (W:World) (o al:Obj),q pre fp W→W.heap[w.heap.size+1]? =some o→(∀ cur e z,o≠.cells cur e z)→q pre fp (W.putObj (w.heap.size+1) al):=fun q ac pre fp W o al h1 h2 h3=>
   ac _ _ _ _ _ h1 (lh W _ al) fun k hk=>⟨ab,fun cur e z h4=>by subst hk; rw [h2] at h4; exact absurd (qW h4)<|h3 _ _ _⟩
  have aC:∀ (fp:Nat→Prop) (W:World) (o al:Obj),W.heap[w.heap.size+1]? =some o→(∀ cur e z,o≠.cells cur e z)→Gw w.heap.size fp W fp (W.putObj (w.heap.size+1) al):=fun fp W o al h2 h3=>
   ⟨fun _ h=> .inl h,fun k cs e z _ _ hk=>by
    rw [n7 (fun h=>by subst h; rw [h2] at hk; exact h3 _ _ _<|qW hk)]; exact hk,by simp [MS]⟩
  have ay:∀ {F:Nat→Prop} {A C:World},Md F A C→∀ (k:Nat) (o:Obj),A.heap[k]? =some o→¬F k→C.heap[k]? =some o:=fun hm k o ap aT=>by
   rw [hm.cz k (cQ.1 ap).1 aT]; exact ap
  refine callsIn_wide.2 (lN (aV (w.heap.size+1)
   (JX q X (fun W=>W.heap[w.heap.size+1]? =some (.loop<|rc .ready none)∧W.heap[w.heap.size]? =some (.deferred<|some [])) fun r W=>W.heap[w.heap.size+1]? =some (.loop<|rc .done<|some<|Ch id r)∧W.heap[w.heap.size]? =some (.deferred<|some []))
   G ⟨aM,aO,aN⟩ ⟨fun b pre fp W h=>match b,h with
    | true,h=>(aA pre fp W h.1).1
    | false,⟨r,h,_⟩=>(aB r pre fp W h).1,fun b pre fp W h=>match b,h with
    | true,h=>(aA pre fp W h.1).2
    | false,⟨r,h,_⟩=>(aB r pre fp W h).2,?_,?_⟩) ?_)
  · intro b pre fp A C F h hm ax
    have az:∀ k,F k→w.heap.size≤k∧∀ cur e z,A.heap[k]? =some (.cells cur e z)→¬fp k:=fun k hk=>⟨by have :=(ax k hk).1; omega,fun _ _ _ _=>(ax k hk).2.1⟩
    have J:∀ (k:Nat) (o:Obj),A.heap[k]? =some o→(∀ cur e z,o≠.cells cur e z)→C.heap[k]? =some o:=fun k o ap a0=>ay hm k o ap fun hk=>by
     obtain ⟨cs,e,z,h5⟩:=(ax k hk).2.2; rw [ap] at h5; exact a0 _ _ _<|qW h5
    cases b with
    | true =>exact ⟨ac _ _ _ _ _ h.1 hm az,J _ _ h.2.1 (fun _ _ _ h=>by cases h),J _ _ h.2.2 fun _ _ _ h=>by cases h⟩
    | false =>
      obtain ⟨r,h1,h2,h3⟩:=h
      exact ⟨r,an r _ _ _ _ _ h1 hm az,J _ _ h2 (fun _ _ _ h=>by cases h),J _ _ h3 fun _ _ _ h=>by cases h⟩
  · rintro pre x rest fp W a4 ⟨hi,E,hk⟩
    have aE:=run_yield (P:=P) (args:=ag x) E<|by rw [O]; exact a2 x
    rw [O] at aE
    refine ⟨fn,_,ar,body,aE,roundIn_of_wpIn (F:=jj) trivial ?_⟩
    have a3:((ps.zip<|ag x).foldl (fun tmps (p:Tmp×Value)=>tmps.setIfInBounds p.1 p.2) (act ⟨n,Y,Z,none⟩ σ).tmps)=(act ⟨n,[],[],some<|w.heap.size+1⟩<|(ps.toList.zip (ag x).toList).foldl (fun s p=>dB s p.1 p.2) σ).tmps:=by
     rw [← Me,Mi]
     exact Eu ⟨n,[],[],some<|w.heap.size+1⟩ _ σ
    have h1:=aP (w.heap.size+1) x W (fun U W'=> ∃ aF,(MB<|w.heap.size+1).run P W'= .ok () aF∧
     body.wpIn (jj.inRound<|w.heap.size+1) 0 P (roundPost P (w.heap.size+1) fun e W'=> ∃ b,e= .returned (.bool b)∧∃ fp',JX q X (fun W=>W.heap[w.heap.size+1]? =some (.loop<|rc .ready none)∧W.heap[w.heap.size]? =some (.deferred<|some [])) (fun r W=>W.heap[w.heap.size+1]? =some (.loop<|rc .done<|some<|Ch id r)∧W.heap[w.heap.size]? =some (.deferred<|some [])) b (pre++ [x]) fp' W'∧Gw G.heap.size fp W fp' W') (act ⟨n,[],[],some<|w.heap.size+1⟩ U) aF) ?_
    · unfold dQ at h1
      have aH:({tmps:=(ps.zip<|ag x).foldl (fun tmps (p:Tmp×Value)=>tmps.setIfInBounds p.1 p.2) (act ⟨n,Y,Z,none⟩ σ).tmps,defers:= []} :Act)=act ⟨n,[],[],some<|w.heap.size+1⟩ ((ps.toList.zip (ag x).toList).foldl (fun s p=>dB s p.1 p.2) σ):=by rw [a3]; rfl
      rw [aH]
      refine wpIn_mono h1 ?_
      intro e a w' M
      cases e with
      | normal=>obtain ⟨U,rfl,ae⟩:=M; exact ae
      | panic c=>obtain ⟨U,rfl,ae⟩:=M; exact ae U fun _ _=>rfl
      | outgrown=>exact M.elim
      | _=>obtain ⟨U,rfl,ae⟩:=M; exact ae
    intro b V au aK
    have hi:=ac _ _ _ _ _ hi au fun _ h=>h.elim
    have E:=ay au _ _ E fun h=>h
    have hk:=ay au _ _ hk fun h=>h
    have aZ:w.heap.size+1 < V.heap.size:=(cQ.1 E).1
    refine ⟨_,run_beginRound E (by rw [O]),?_⟩
    have aY:(V.putObj (w.heap.size+1)<|.loop {rc .ready none with state:= .busy}).heap[w.heap.size+1]? =some (.loop {rc .ready none with state:= .busy}):=zw aZ
    have aW:(V.putObj (w.heap.size+1)<|.loop {rc .ready none with state:= .busy}).heap[w.heap.size]? =some (.deferred<|some []):=(n7 ab).trans hk
    have a1:=aC fp V _ (.loop {rc .ready none with state:= .busy}) E fun _ _ _ h=>by cases h
    have h2:=aQ (w.heap.size+1) pre x rest fp b _ a4 (ai q ac _ _ _ _ (.loop {rc .ready none with state:= .busy}) hi E fun _ _ _ h=>by cases h)<|aJ _ _ _ _ _ aK (lh V (w.heap.size+1) _) fun k hk cur e z h4=>by subst hk; rw [E] at h4; cases h4
    unfold dQ at h2
    refine wpIn_mono h2 ?_
    have fin:∀ (j:Option Code) (fp':Nat→Prop) (I:World),gk (V.putObj (w.heap.size+1)<|.loop {rc .ready none with state:= .busy}) I→Gw w.heap.size fp (V.putObj (w.heap.size+1)<|.loop {rc .ready none with state:= .busy}) fp' I→
     (Instr.endRound (w.heap.size+1) j).run P I= .ok (.bool j.isNone) (I.putObj (w.heap.size+1)<|.loop<|rc (if j.isNone then .ready else .done) j)∧
     I.heap[w.heap.size+1]? =some (.loop {rc .ready none with state:= .busy})∧
     (I.putObj (w.heap.size+1)<|.loop<|rc (if j.isNone then .ready else .done) j).heap[w.heap.size+1]? =some (.loop<|rc (if j.isNone then .ready else .done) j)∧
     (I.putObj (w.heap.size+1)<|.loop<|rc (if j.isNone then .ready else .done) j).heap[w.heap.size]? =some (.deferred<|some [])∧
     Gw G.heap.size fp W fp' (I.putObj (w.heap.size+1)<|.loop<|rc (if j.isNone then .ready else .done) j):=fun j fp' I J ah=>by
     have av:=J _ _ aY fun _ _ _ h=>by cases h
     have aX:=J _ _ aW fun _ _ _ h=>by cases h
     have aD:=run_endRound (P:=P) j av
     refine ⟨?_,av,zw (cQ.1 av).1,(n7 ab).trans aX,((((Gw.wk au).trans a1).trans ah).trans<|aC fp' _ _ _ av fun _ _ _ h=>by cases h).mono ab⟩
     rw [O] at aD ⊢
     exact aD
    intro e a I M
    cases e with
    | normal=>
      obtain ⟨U,rfl,J,fp',ah,ao⟩:=M
      obtain ⟨f1,f2,f3,f4,f5⟩:=fin none fp' I J ah
      exact ⟨_,_,f1,true,aa,fp',⟨ai q ac _ _ _ _ _ ao f2 (fun _ _ _ h=>by cases h),f3,f4⟩,f5⟩
    | ret=>
      obtain ⟨U,rfl,J,fp',ah,ao⟩:=M
      obtain ⟨f1,f2,f3,f4,f5⟩:=fin (some .ret) fp' I J ah
      exact ⟨_,_,f1,false,aa,fp',⟨true,ai (X true) (an true) _ _ _ _ _ ao f2 (fun _ _ _ h=>by cases h),f3,f4⟩,f5⟩
    | exit i=>
      obtain ⟨U,rfl,rfl,J,fp',ah,ao⟩:=M
      obtain ⟨f1,f2,f3,f4,f5⟩:=fin (some<|.exit i) fp' I J ah
      exact ⟨_,_,f1,false,aa,fp',⟨false,ai (X false) (an false) _ _ _ _ _ ao f2 (fun _ _ _ h=>by cases h),f3,f4⟩,f5⟩
    | panic c=>obtain ⟨U,rfl,ae⟩:=M; exact (ae U fun _ _=>rfl).elim
    | outgrown=>exact M.elim
    | goto t=>obtain ⟨U,rfl,ae⟩:=M; exact ae.elim
  · rintro e a8 ⟨⟨v,rfl⟩,b,pre,fp,hj,hpre,hb1⟩
    cases b with
    | true =>
      obtain ⟨hi,E,hk⟩:=hj
      obtain rfl :=hb1 rfl
      have aq:=run_endLoop (P:=P) E<|by rw [O]; simp
      rw [O] at aq
      refine ⟨none,_,aq,?_⟩
      rw [O] at E
      exact hd w.heap.size _ (cB _) ⟨fp,ai q ac _ _ _ _ _ hi E fun _ _ _ h=>by cases h⟩<|(n7 ab).trans hk
    | false =>
      obtain ⟨r,hi,E,hk⟩:=hj
      have aq:=run_endLoop (P:=P) E<|by rw [O]; simp
      rw [O] at aq
      refine ⟨some (Ch id r),_,aq,?_⟩
      rw [O] at E
      cases r with
      | true =>
        refine wpIn_ret ?_
        exact a6 w.heap.size _ pre (cB _) hpre ⟨fp,ai (X true) (an true) _ _ _ _ _ hi E fun _ _ _ h=>by cases h⟩<|(n7 ab).trans hk
      | false =>
        refine wpIn_exit ?_
        unfold Exit.inBlock
        simp only [if_true]
        exact a5 w.heap.size _ pre (cB _) hpre ⟨fp,ai (X false) (an false) _ _ _ _ _ hi E fun _ _ _ h=>by cases h⟩<|(n7 ab).trans hk
section
variable {P:Program} {N:Fm} {ops:Array Oper} {Q:Exit→(Nat→Value)→World→Prop} {rest:List Oper} {σ:Nat→Value} {w:World} {d':Option Nat} {d:Nat} {op:Op} {ty:TypeId} {pos :String} {af:Array Edge} {v:Value}
end
section
variable {P:Program} {n:Nat} {F:List Nat} {σ:Nat→Value} {w:World} {fn:Func} {R:Value→World→Prop}
theorem xG {D:Nat} {r:ResultVar} {v:Value} (h:fn.results= #[r]) (a:w.heap[D]? =some (.deferred<|some [])) (h1:mQ P ⟨n,[{target:= .collected D,args:= #[]}],F,none⟩ σ (w.putObj D<|.deferred none) r v) (i:R v (w.putObj D<|.deferred none)):
 qb ⟨n,[{target:= .collected D,args:= #[]}],F,none⟩ (Bm P fn R) .ret σ w:=
 ⟨Mz,.inl ⟨_,_,rfl,run_takeDeferred a,⟨v,Kn h (mD h1),v,rfl,i⟩⟩⟩
theorem xi {b off D:Nat} {o A:Obj} {v:Value} (a:Hb.aQ w.heap b off =some v) (i:w.heap[D]? =some o) (hn:∀ cur e z,o≠.cells cur e z):Hb.aQ (w.putObj D A).heap b off =some v:=by
 have q:b≠D:=fun h=>by
  subst h
  unfold Hb.aQ at a
  rw [i] at a
  cases o with
  | cells c e z=>exact hn _ _ _ rfl
  | _=>cases a
 unfold Hb.aQ at a ⊢
 rw [n7 q]; exact a
end
def Bl (P:Program) (s f:Nat):Option Nat:=
 match P.underlying s with
 | some (.struct fs)=>match fs[f]? with
   | some fd=>if dz P fd.type=some none then some fd.offset else none
   | none=>none
 | _=>none
theorem Xo {P:Program} {t:Nat} (hu:dz P t=some none) (w:World):(isAgg t).run P w= .ok false w:=by
 unfold dz at hu
 cases hd:P.underlying t with
 | none=>rw [hd] at hu; cases hu
 | some d=>
   rw [hd] at hu
   cases d <;> first
    | (simp only [oY] at hu; obtain ⟨_,_,h⟩:=hu; cases h; done)
    | simp [isAgg,eC hd]
theorem SK {P:Program} {N:Fm} {σ:Nat→Value} {w:World} {dst:Option Nat} {ty:TypeId} {pos :String} {af:Array Edge} {g:Option (Nat×Bool)} {x:Operand} {s f n:Nat} {cs:Array Value} {v:Value} (a:Bl P s f=some n) (C:ev N σ x= .agg cs) (A:cs[n]? =some v):
 (execOp (ev N σ) ⟨dst,.field s x f,ty,pos,af,g⟩).run P w= .ok (.value v) w:=by
 unfold Bl at a
 split at a
 · rename_i fs hu
   split at a
   · rename_i fd q
     split at a
     · rename_i i
       cases a
       simp [execOp,MC,eC hu,q,C,asAgg,part,Xo i,A]
     · cases a
   · cases a
 · cases a
section
variable {P:Program} {ops:Array Oper} {Q:Exit→Act→World→Prop} {S:World→Prop} {md:rY}
theorem L0 {i:Nat} {o:Oper} {v:Value} {a:Act} (hi:ops[i]? =some o) (C:YieldsIf P ops S o v a) {K:Act→World→Prop} {w:World} (q:S w) (h:K (a.put o.dst v) w):wpOpIn jj 0 P ops Q i K a w:=by
 unfold wpOpIn
 simp only [hi]
 rcases C with ⟨hw,A⟩ | ⟨hw,rfl⟩
 · rw [if_pos hw]
   refine ⟨fun _ _=>trivial,?_⟩
   rw [show jj.round=none from rfl,vS,A w q]
   exact h
 · rw [if_neg (by rw [hw]; exact ei)]; exact ⟨fun _ _=>trivial,h⟩
theorem Zd {j:Nat} {i A:Oper} {v:Value} (I:ops[j]? =some A) (G:i.apart ops A=true)
 (J:∀ cs b,i.op≠.select cs b) (M:∀ cs b,A.op≠.select cs b)
 (C:∀ c a w,Q (.panic c) (a.put i.dst v) w→Q (.panic c) a w) {K:Act→World→Prop} {a:Act} {w:World}
 (q:YieldsIf P ops S i v a) (h:wpOpIn jj 0 P ops Q j K (a.put i.dst v) w):
 wpOpIn jj 0 P ops Q j (fun E w'=>YieldsIf P ops S i v E∧K (E.put i.dst v) w') a w:=by
 obtain ⟨h1,h2,h3⟩:=Oper.apart_spec G
 have cz:∀ (a:Act),YieldsIf P ops S i v a→∀ u,YieldsIf P ops S i v (a.put A.dst u):=fun a q u=>
  q.of_same (execOp_put i J a A.dst u h3) (wanted_put i a A.dst u h3)
 have O:∀ d,YieldsIf P ops S i v {a with defers:=d::a.defers} :=fun d=>q.of_same rfl rfl
 unfold wpOpIn at*
 simp only [I] at*
 rw [wanted_put A a i.dst v h1] at h
 split
 · rename_i hw
   simp only [hw,if_true] at h
   unfold Oper.wpIn at*
   refine ⟨fun _ _=>trivial,?_⟩
   have h:=h.2
   rw [show jj.round=none from rfl,vS,execOp_put A M a i.dst v h1] at h
   rw [show jj.round=none from rfl,vS]
   generalize (execOp a.eval A).run P w=r at*
   cases r with
   | ok x w'=>
     cases x <;> simp only [qO] at h ⊢
     case value u=>exact ⟨cz a q u,by rw [← rV a v u h2]; exact h⟩
     case skip =>exact ⟨cz a q _,by rw [← rV a v undef h2]; exact h⟩
     case defer d=>
      refine ⟨cz _ (O d) _,?_⟩
      rw [← rV _ v undef h2,← Act.put_defers]
      exact h
     case enter f args=>
      refine ⟨h.1,DQ h.2 fun e w'' he=> ?_⟩
      cases e with
      | returned u=>exact ⟨cz a q u,by rw [← rV a v u h2]; exact he⟩
      | panicked c=>exact C _ _ _ he
      | outgrown=>exact he
     case row row args=>exact ⟨h.1,D6 h.2 fun u w'' he=>⟨cz a q u,by rw [← rV a v u h2]; exact he⟩⟩
     case round l f tmps assign body=>
      refine ⟨h.1,D4 h.2 fun e w'' he=> ?_⟩
      cases e with
      | returned u=>exact ⟨cz a q u,by rw [← rV a v u h2]; exact he⟩
      | panicked c=>exact C _ _ _ he
      | outgrown=>exact he
   | halt x w'=>
     cases x <;> simp only [qO] at h ⊢
     case panic u=>exact C _ _ _ h
 · rename_i hw
   simp only [hw] at h
   exact ⟨fun _ _=>trivial,cz a q _,by rw [← rV a v undef h2]; exact h.2⟩
def pS (P:Program) (md:rY) (ops:Array Oper) (Q:Exit→Act→World→Prop) (S:World→Prop):Nat→Array Bool→Act→World→Prop
 | 0,bc,a,w=>jr md ops bc= []∧Q .normal a w
 | fuel+1,bc,a,w=>
   (jr md ops bc= []→Q .normal a w)∧
   ∀ i∈jr md ops bc,wpOpIn jj 0 P ops Q i (fun q w'=>S w'∧pS P md ops Q S fuel (bc.setIfInBounds i true) q w') a w
theorem LU:∀ (fuel:Nat) (bc:Array Bool) (a:Act) (w:World),pS P md ops Q S fuel bc a w→wpAnyIn jj 0 P md ops Q fuel bc a w
 | 0,_,_,_,h=>h
 | fuel+1,_,_,_,h=>⟨h.1,fun i hi=>wpOpIn_mono (fun q w' A=>LU fuel _ q w' A.2)<|h.2 i hi⟩
theorem Y7 {i:Nat} {C:Oper} {v:Value} (hi:ops[i]? =some C) (aa:∀ (j:Nat) (o:Oper) cs b,ops[j]? =some o→o.op≠.select cs b)
 (ae:∀ c a w,Q (.panic c) (a.put C.dst v) w→Q (.panic c) a w):
 ∀ (fuel:Nat) (bc:Array Bool) (a:Act) (w:World),
   (∀ j E,ops[j]? =some E→j≠i→bc.getD j true =false→(∀ e∈E.after,j0 md e=true→e.on≠i)→C.apart ops E=true)→
   i∈jr md ops bc→YieldsIf P ops S C v a→S w→
   pS P md ops Q S fuel (bc.setIfInBounds i true) (a.put C.dst v) w→pS P md ops Q S (fuel+1) bc a w:=by
 intro fuel
 induction fuel with
 | zero=>
   intro bc a w _ A J G H
   refine ⟨fun h=>(by rw [h] at A; cases A),fun j I=> ?_⟩
   by_cases q:j=i
   · subst q; exact L0 hi J G ⟨G,H⟩
   · have :=ready_mono I q
     rw [H.1] at this
     cases this
 | succ fuel am=>
   intro bc a w V A J G H
   refine ⟨fun h=>(by rw [h] at A; cases A),fun j I=> ?_⟩
   by_cases q:j=i
   · subst q; exact L0 hi J G ⟨G,H⟩
   · have h1:=H.2 j<|ready_mono I q
     obtain ⟨Z,E,O,ag⟩:=mem_ready.1 I
     have al:∀ e∈E.after,j0 md e=true→e.on≠i:=fun e he ah heq=>by
      have h1:=ag e he ah
      have U:=(mem_ready.1 A).1
      rw [heq] at h1
      rcases Nat.lt_or_ge i bc.size with M | M
      · simp [M] at U h1; rw [U] at h1; cases h1
      · simp [Array.getElem?_eq_none M] at h1
     have h2:=Zd O (V j E O q Z al) (fun cs b=>aa i C cs b hi) (fun cs b=>aa j E cs b O) ae J h1
     have ai:∀ k ok,ops[k]? =some ok→k≠i→(bc.setIfInBounds j true).getD k true =false→
      (∀ e∈ok.after,j0 md e=true→e.on≠i)→C.apart ops ok=true :=fun k ok hk aj ab ak=>by
      refine V k ok hk aj ?_ ak
      by_cases Y:j=k
      · subst Y; exact Z
      · rw [getD_set_ne true Y] at ab; exact ab
     refine wpOpIn_mono (fun ac w' h3=>⟨h3.2.1,am (bc.setIfInBounds j true) ac w' ai (ready_mono A<|Ne.symm q) h3.1 h3.2.1 ?_⟩) h2
     rw [Array.setIfInBounds_comm _ _ q]
     exact h3.2.2
theorem DA {i:Nat} {q:Oper} {v:Value} {fuel:Nat} {bc:Array Bool} {a:Act} {w:World} (hi:ops[i]? =some q)
 (hs:Region.noSelect ops=true) (E:Region.free md ops bc i=true) (G:(jr md ops bc).contains i=true)
 (A:∀ c a w,Q (.panic c) (a.put q.dst v) w→Q (.panic c) a w) (I:YieldsIf P ops S q v a) (C:S w)
 (h:pS P md ops Q S fuel (bc.setIfInBounds i true) (a.put q.dst v) w):pS P md ops Q S (fuel+1) bc a w:=
 Y7 hi (Region.noSelect_spec hs) A fuel bc a w (Region.free_spec hi E) (by simpa using G) I C h
theorem LV {i:Nat} {fuel:Nat} {bc:Array Bool} {a:Act} {w:World} (G:lj ops bc i=true)
 (h:wpOpIn jj 0 P ops Q i (fun E w'=>S w'∧pS P .any ops Q S fuel (bc.setIfInBounds i true) E w') a w):pS P .any ops Q S (fuel+1) bc a w:=by
 have C:jr .any ops bc= [i]:=by simpa [lj] using G
 exact ⟨fun q=>(by rw [C] at q; cases q),fun j A=>by rw [C] at A; obtain rfl :=j4.1 A; exact h⟩
end
def lu (P:Program) (N:Fm) (ops:Array Oper) (Q:Exit→(Nat→Value)→World→Prop) (S:World→Prop) (fuel:Nat) (bc:Array Bool) (σ:Nat→Value) (w:World):Prop :=
 pS P .any ops (lift N Q) S fuel bc (act N σ) w
section
variable {P:Program} {N:Fm} {ops:Array Oper} {Q:Exit→(Nat→Value)→World→Prop} {σ:Nat→Value} {w:World} {d':Option Nat} {d:Nat} {op:Op} {ty:TypeId} {pos :String} {af:Array Edge} {v:Value}
variable {S:World→Prop} {fuel:Nat} {bc:Array Bool}
theorem L1 {id:Nat} {l:List Oper} (S:World→Prop) (a:N.r=none) (hm:P.follows .mixedOrders=true) (i:S w.drew) (h:lu P N l.toArray Q S l.length (tJ l.length false) σ w.drew):dQ P N (.region id l.toArray true) Q σ w:=by
 unfold dQ
 rw [a]
 exact wpIn_region_any hm<|LU _ _ _ _<|by rw [oa]; exact h
theorem yp (i:Nat) (hi:ops[i]? =some ⟨some d,op,ty,pos,af,none⟩) (q:ja N.F ops bc i=true)
 (C:∀ w,S w→(execOp (ev N σ) ⟨some d,op,ty,pos,af,none⟩).run P w= .ok (.value v) w) (A:S w)
 (k:lu P N ops Q S fuel (bc.setIfInBounds i true) (dB σ d v) w):lu P N ops Q S (fuel+1) bc σ w:=by
 simp only [ja,gU] at q
 refine DA hi q.1.1.1 q.1.1.2 q.1.2 (fun c a w=>oC (by have :=q.2; rwa [hi] at this) c a w) (.inl ⟨jO _ rfl _,fun w A=> ?_⟩) A ?_ (v:=v)
 · rw [hU]; exact C w A
 · rw [jH]; exact k
theorem nj (i:Nat) {j t:Nat} {want:Bool} (hi:ops[i]? =some ⟨some d,op,ty,pos,af,some (j,want)⟩) (q:ja N.F ops bc i=true)
 (C:jW ops j=some t) (E:gD t N.n=true) (G:σ t= .bool want)
 (I:∀ w,S w→(execOp (ev N σ) ⟨some d,op,ty,pos,af,some (j,want)⟩).run P w= .ok (.value v) w) (A:S w)
 (k:lu P N ops Q S fuel (bc.setIfInBounds i true) (dB σ d v) w):lu P N ops Q S (fuel+1) bc σ w:=by
 simp only [ja,gU] at q
 refine DA hi q.1.1.1 q.1.1.2 q.1.2 (fun c a w=>oC (by have :=q.2; rwa [hi] at this) c a w) (.inl ⟨by rw [pQ aa C E G]; cases want <;> rfl,fun w A=> ?_⟩) A ?_ (v:=v)
 · rw [hU]; exact I w A
 · rw [jH]; exact k
theorem l9 (i:Nat) {j t:Nat} {want b:Bool} (hi:ops[i]? =some ⟨some d,op,ty,pos,af,some (j,want)⟩) (q:ja N.F ops bc i=true)
 (E:jW ops j=some t) (G:gD t N.n=true) (I:σ t= .bool b) (C:(b==want)=false) (A:S w)
 (k:lu P N ops Q S fuel (bc.setIfInBounds i true) (dB σ d undef) w):lu P N ops Q S (fuel+1) bc σ w:=by
 simp only [ja,gU] at q
 refine DA hi q.1.1.1 q.1.1.2 q.1.2 (fun c a w=>oC (by have :=q.2; rwa [hi] at this) c a w) (.inr ⟨by rw [pQ aa E G I,C],aa⟩) A ?_ (v:=undef)
 rw [jH]; exact k
theorem Za {Q:Exit→Act→World→Prop} {o:Oper} {K:(Nat→Value)→World→Prop} {A:Act→World→Prop} (h:dR P N o σ w K) (hk:∀ σ w,K σ w→A (act N σ) w):o.wpIn jj 0 P (act N σ) w A Q:=by
 refine ⟨fun _ _=>trivial,?_⟩
 rw [show jj.round=none from rfl,vS]
 unfold dR jZ at h
 generalize (execOp (act N σ).eval o).run P w=x at h ⊢
 cases x with
 | ok n w'=>
   cases n <;> simp only [kV,qO] at h ⊢ <;>
    first
     | (obtain ⟨C,i,a⟩:=h; rw [i]; exact hk _ _ a)
     | (refine ⟨fun q=>(by cases q),DQ (callsIn_wide.2 h) fun e w'' he=> ?_⟩
        cases e with
        | returned v=>obtain ⟨C,i,a⟩:=he; simp only; rw [i]; exact hk _ _ a
        | panicked c=>exact he.elim
        | outgrown=>obtain ⟨_,_,E⟩:=he; exact E.elim)
     | (refine ⟨fun q=>(by cases q),D6 (Bk (r:=none) h) fun v w'' he=> ?_⟩
        obtain ⟨C,i,a⟩:=he; rw [i]; exact hk _ _ a)
 | halt x w'=>cases x <;> simp only [kV] at h
theorem ye (i:Nat) (hi:ops[i]? =some ⟨d',op,ty,pos,af,none⟩) (a:lj ops bc i=true)
 (h:dR P N ⟨d',op,ty,pos,af,none⟩ σ w (fun σ w=>S w∧lu P N ops Q S fuel (bc.setIfInBounds i true) σ w)):lu P N ops Q S (fuel+1) bc σ w:=by
 refine LV a ?_
 unfold wpOpIn
 simp only [hi]
 rw [if_pos (jO _ rfl _)]
 exact Za h fun _ _ hk=>hk
theorem L2 {l:Nat} {fo:Operand} {args:Array Operand} {q:Array TypeId} {R:Bool→World→Prop} (i:Nat) {j t:Nat} {want:Bool} {L:List Value} (hi:ops[i]? =some ⟨some d,.call ⟨.value fo,args,q⟩,ty,pos,af,some (j,want)⟩) (J:lj ops bc i=true)
 (I:jW ops j=some t) (O:gD t N.n=true) (U:σ t= .bool want) (G:ev N σ fo= .func (.yield l) #[] #[]) (C:args.toList.map (ev N σ)=L)
 (Y:YieldAt jj 0 P l L.toArray w fun e W'=> ∃ b,e= .returned (.bool b)∧R b W') (k:∀ b W',R b W'→S W'∧lu P N ops Q S fuel (bc.setIfInBounds i true) (dB σ d<|.bool b) W'):
 lu P N ops Q S (fuel+1) bc σ w:=by
 refine LV J ?_
 unfold wpOpIn
 simp only [hi]
 rw [if_pos (by rw [pQ rfl I O U]; cases want <;> rfl)]
 obtain ⟨fn,tmps,a,b,M,E⟩:=Y
 refine ⟨fun _ _=>trivial,?_⟩
 rw [show jj.round=none from rfl,vS,hU]
 have hm:args.map (ev N σ)=L.toArray:=by rw [← C,← nk]
 have V:(execOp (ev N σ) ⟨some d,.call ⟨.value fo,args,q⟩,ty,pos,af,some (j,want)⟩).run P w= .ok (.round l fn tmps a b) w:=by
  simp [execOp,resolve,G,qM,invoke,hm,M]
 rw [V]
 simp only [qO]
 refine ⟨fun A=>(by cases A),D4 E ?_⟩
 rintro e W' ⟨c,rfl,hw⟩
 simp only
 rw [jH]
 exact k c W' hw
theorem yn (q:(jr .any ops bc).isEmpty=true) (h:Q .normal σ w):lu P N ops Q S fuel bc σ w:=by
 have a:jr .any ops bc= []:=by simpa using q
 cases fuel with
 | zero=>exact ⟨a,σ,rfl,h⟩
 | succ n=>exact ⟨fun _=>⟨σ,rfl,h⟩,fun i hi=>by rw [a] at hi; cases hi⟩
theorem LZ {t:Nat} {b:Bool} (h:σ t= .bool b) (i:b=true→lu P N ops Q S fuel bc (dB σ t<|.bool true) w) (a:b=false→lu P N ops Q S fuel bc (dB σ t<|.bool false) w):lu P N ops Q S fuel bc σ w:=by
 cases b
 · have :=a rfl; rwa [nU h] at this
 · have :=i rfl; rwa [nU h] at this
end
attribute [irreducible] lu
end Go.Hb
end
namespace Go.Hb
theorem JC {b:UInt8} {m:Int} (h:48≤b.toNat∧b.toNat≤57) (hm:((b.toNat - 48:Nat):Int)≤m):eX [b] m= .ok (b.toNat - 48):=by
 have a:eO [b]=b.toNat - 48:=by simp [eO]
 have q:¬qu [b]:=by rintro (h | ⟨h,_⟩) <;> simp at h
 have hd:A5 [b]:=fun i hi=>by
  have hi:i=0:=by simpa using hi
  subst hi
  exact decide_eq_true h
 unfold eX
 rw [Cy q hd (by rw [a]; omega),a]
 rfl
theorem Dz:eI 1 [65]=65:=by unfold eI; decide+kernel
theorem Y0:gH hZ [65]= .ok 65:=by
 unfold gH gN hZ
 simp only
 rw [Dz]
 simp [eG,dY]
theorem Y1:kN 1 [65]= .ok [65]:=by
 have h1:dH 1 [65]= [[65]]:=by decide+kernel
 have h:ea 1 [65]=([65],0):=by
  unfold ea
  rw [h1,if_neg (by simp),if_neg (by simp [Dz]),if_neg (by simp),tW,List.map_nil,Dz]
  decide+kernel
 unfold kN
 rw [h]; rfl
def tB:Tx:= [83,70,88,32,65,32,89,32,50,10,83,70,88,32,65,32,48,32,115,10,83,70,88,32,65,32,48,32,101,114,10]
def y9:Tx:= [49,10,100,111,47,65,10]
def jY:aT:=⟨1,[],[],[0,0,0,0,0],3,[],[],[⟨65,2,true,0,2⟩],[⟨2,65,true,[],[115],[46],[],2⟩,⟨2,65,true,[],[101,114],[46],[],3⟩]⟩
def ni:List bF:= [([100,111],[65])]
theorem YS:bQ tB= [(1,[[83,70,88],[65],[89],[50]]),(2,[[83,70,88],[65],[48],[115]]),(3,[[83,70,88],[65],[48],[101,114]])]:=by decide+kernel
theorem YT:bQ y9= [(1,[[49]]),(2,[[100,111,47,65]])]:=by decide+kernel
theorem LN {s:Tx} {ln:Nat} (hw:bA s=(s,[],false,0)) (a:s≠[48]) (i:gF s=0):fF 1 [] ⟨65,2,true,0,2⟩ ln [[83,70,88],[65],[48],s]= .ok ⟨2,65,true,[],s,[46],[],ln⟩:=by
 unfold fF
 rw [if_neg (by simp)]
 simp only [lO,M4]
 rw [show eB true [48]= .ok [] from if_pos ⟨rfl,rfl⟩,hw]
 simp only
 rw [show jJ (s,[],false,0)= .ok s from by unfold jJ; rw [if_neg (by simp),if_neg a,if_neg (by simp [i])]]
 rfl
theorem YO:fq tB= .ok jY:=by
 unfold fq
 rw [if_neg az,YS]
 simp only [cT,ga]
 have q:cw ((bJ tB).length+1) hZ [] [(2,[[83,70,88],[65],[48],[115]]),(3,[[83,70,88],[65],[48],[101,114]])] 1 [[83,70,88],[65],[89],[50]]= .ok (jY,[]):=by
  unfold cw
  simp only [lO]
  rw [if_neg az,if_neg az,if_neg az,if_neg az,if_neg az,if_neg az,if_neg az]
  unfold gM
  simp only [lO,M4]
  rw [Y0]
  simp only
  rw [if_neg (by simp),JC (b:=50) az az]
  simp only
  rw [if_neg az]
  have i:∀ b,b=true→group [[83,70,88],[65]] (fF hZ.kind hZ.aliases ⟨65,if ([83,70,88]:Tx)=dp then 2 else 1,b,hZ.rules.length,NA 50 - 48⟩) ((bJ tB).length+1) (NA 50 - 48) [(2,[[83,70,88],[65],[48],[115]]),(3,[[83,70,88],[65],[48],[101,114]])]= .ok (jY.rules,[]):=by
   intro b a
   subst a
   show group [[83,70,88],[65]] (fF 1 [] ⟨65,2,true,0,2⟩) _ 2 _=_
   rw [group,if_neg az,LN (by decide+kernel) az az]
   simp only
   rw [group,if_neg az,LN (by decide+kernel) az az]
   rfl
  rw [i _ (by simp)]
  simp only [decide_true]
  rfl
 rw [gJ]
 simp only [lO]
 rw [if_neg az,if_neg az,if_neg az,q]
 simp only
 rw [gJ]
 rfl
theorem YQ:ff jY y9= .ok ni:=by
 have a:fV jY [[100,111,47,65]]= .ok ([100,111],[65]):=by
  have hw:bA [100,111,47,65]=([100,111],[65],true,0):=by decide+kernel
  refine (Ba (row:= [[100,111,47,65]]) (set := [65]) aa ?_ ?_ ?_ ?_ ?_ ?_ ?_).trans ?_
  all_goals try simp only [lO,hw]
  · decide
  · decide
  · simp
  · show fR 1 [] [65]=_
    unfold fR; rw [if_pos rfl]; exact Y1
  · intro i hi
    have :i=0:=by simpa using hi
    subst this; decide
 have hn:eX [49] 8192= .ok 1:=JC az az
 rw [GM az YT rfl (show eX ([[49]].getD 0 []) 8192= .ok 1 from hn),e7,a]
 simp only
 rw [e7]
 rfl
def vH:List bZ:= [⟨[100,111],0,-1,-1,-1⟩,⟨[100,111,115],0,0,-1,-1⟩,⟨[100,111,101,114],0,1,-1,-1⟩]
theorem LM (ad:Tx) (ln:Nat):dC ⟨2,65,true,[],ad,[46],[],ln⟩ [100,111]=some ([100,111]++ad):=by
 have a:di [46]=([],0):=by unfold di; rw [if_neg (by simp),if_pos rfl]
 unfold dC iF
 simp only [a]
 rw [if_pos (by simp only [if_true,ga]; rfl)]
 rfl
theorem YP:lH jY ni 0=vH:=by
 have h1:aV jY (flagsOf ni (0:Nat)) 1= []:=az
 have h2:aV jY (flagsOf ni (0:Nat)) 2= [0,1]:=az
 have h3:aV jY (cW jY (0:Nat)) 2= []:=az
 have h4:aV jY (cW jY (1:Nat)) 2= []:=az
 have a:∀ w f s,eD jY ni 0 w f s=kt jY ni 0 w f s:=fun w f s=>by unfold eD; rw [h1]; simp
 unfold lH
 rw [h2,a]
 simp only [qU,M3,ek]
 unfold fW
 rw [show dC (jY.rules.getD 0 eY) (ni.getD 0 ([],[])).1=some [100,111,115] from LM [115] 2,show dC (jY.rules.getD 1 eY) (ni.getD 0 ([],[])).1=some [100,111,101,114] from LM [101,114] 3]
 simp only [h3,h4,M3,ek,a]
 unfold kt
 rw [if_pos az,if_pos az,if_pos az]
 rfl
end Go.Hb
section
namespace Go.Hb.fk
open Go.Proofs
def kT (l:List (Tx×Tx)):List Value:=l.flatMap fun p=> [str p.1,str p.2]
def nB (c:db):List Value:= [bg c.flag,.int .i64 (c.kind:Nat),.bool c.et,.int .i64 (c.first:Nat),.int .i64 (c.count:Nat)]
def mY (l:List db):List Value:=l.flatMap nB
def fz (q:dd×Value):List Value:= [.int .i64 (q.1.kind:Nat),bg q.1.flag,.bool q.1.et,str q.1.strip,str q.1.add,str q.1.cond,q.2]
def iT (l:List (dd×Value)):List Value:=l.flatMap fz
structure dt where
 rb:Nat
 fb:Nat
 ms:Nat
 mt:Nat
 mc:Nat
 eof:Nat
structure e6 where
 v9:Value
 v10:Value
 v11:Value
 v12:Value
 sa:List Value
 rn:List Value
structure gX where
 vr:Value
 vs:List (Nat×Value)
 vn:Value
def oy (F:aT) (V:e6) (mc:Nat):List Value:= [.int .i64 (F.kind:Nat),str F.rh,str F.tr,bg (F.sp.getD 0 0),bg (F.sp.getD 1 0),bg (F.sp.getD 2 0),bg (F.sp.getD 3 0),bg (F.sp.getD 4 0),.int .i64 (F.least:Nat),V.v9,V.v10,V.v11,V.v12,.map (some mc)]
def vk (H:dt) (R:gX) (ln:Nat):List Value:= [.pointer (some ⟨H.fb,0,none⟩),R.vr,.int .i64 (ln:Nat),.int .i64 (H.eof:Nat),.map (some H.ms),.map (some H.mt),R.vn]
structure dU (w:World) (B fb mc:Nat) (F:aT) (V:e6):Prop where
 cells:w.heap[fb]? =some (.cells (oy F V mc).toArray 125 (0,0))
 o9:bu w B 128 2 V.v9 F.dm.length (kT F.dm)
 eT:bu w B 70 1 V.v10 F.aliases.length V.sa
 al:ez w B 51 V.sa F.aliases
 eu:bu w B 131 5 V.v11 F.bw.length (mY F.bw)
 dD:bu w B 77 7 V.v12 F.rules.length (iT<|F.rules.zip V.rn)
 nx:ez w B 51 V.rn (F.rules.map (·.next))
 cm:∃ f,du w.heap mc (pE .u16) f∧∀ x:Nat,f (bg x)=(F.bw.findIdx? fun c=>decide (c.flag=x)).map fun i:Nat=>Value.int .i64 i
 lo:B≤fb∧B≤mc
 fO:F.sp.length=5
theorem dU.md {G:Nat→Prop} {w w':World} {B fb mc:Nat} {F:aT} {V:e6} (h:dU w B fb mc F V) (hm:Md G w w') {L:List Nat} (a:TF w L G) (i:(L.contains 127 || L.contains 130 || L.contains 72 || L.contains 53 || L.contains 133 || L.contains 79)=false) (I:¬G mc):dU w' B fb mc F V:=by
 simp only [nm] at i
 obtain ⟨⟨⟨⟨⟨h1,h2⟩,h3⟩,h4⟩,h5⟩,h6⟩:=i
 have q:∀ k,G k→∀ cur z,w.heap[k]?≠some (.cells cur 51 z):=fun k hk cur z E=>a.no (dw E) h4 hk
 obtain ⟨f,A,C⟩:=h.cm
 exact ⟨hm.gA a h.cells h1,cj h.o9 hm a h2,cj h.eT hm a h3,h.al.md hm q,cj h.eu hm a h5,cj h.dD hm a h6,h.nx.md hm q,⟨f,A.md hm I,C⟩,h.lo,h.fO⟩
theorem dU.wk {w w':World} {B fb mc:Nat} {F:aT} {V:e6} (h:dU w B fb mc F V) (hm:Wk w w'):dU w' B fb mc F V:=h.md (L:= []) hm (fun _ hk=>hk.elim) rfl id
structure dy (w:World) (B:Nat) (H:dt) (F:aT) (R:gX) (rows:List Rw) (ln:Nat) (seen:List Tx):Prop where
 cells:w.heap[H.rb]? =some (.cells (vk H R ln).toArray 195 (0,0))
 rws:mj w B 209 rows.length R.vr (kF R.vs)
 rt:gZ w B 9 R.vs rows
 sm:∃ f,du w.heap H.ms jn f∧∀ s:Tx,(f<|str s).getD (.int .i64 0)= .int .i64 (seen.count s:Nat)
 tm:∃ f,du w.heap H.mt (pE .u16) f∧∀ x:Nat,x≠0→(f<|bg x).getD (.int .i64 0)= .int .i64 ((if eG F x=true then 1 else 0:Nat):Nat)
 on :bu w B 3 1 R.vn F.rules.length (F.rules.map fun r=>Value.int .i64 (r.line:Nat))
 lo:B≤H.rb∧B≤H.ms∧B≤H.mt
 ne:H.ms≠H.mt∧H.ms≠H.mc∧H.mt≠H.mc
theorem dy.md {G:Nat→Prop} {w w':World} {B:Nat} {H:dt} {F:aT} {R:gX} {rows:List Rw} {ln:Nat} {seen:List Tx} (h:dy w B H F R rows ln seen) (hm:Md G w w') {L:List Nat} (a:TF w L G) (q:(L.contains 197 || L.contains 211 || L.contains 11 || L.contains 5)=false) (J:¬G H.ms) (M:¬G H.mt):dy w' B H F R rows ln seen:=by
 simp only [nm] at q
 obtain ⟨⟨⟨h1,h2⟩,h3⟩,h4⟩:=q
 obtain ⟨f,A,C⟩:=h.sm
 obtain ⟨g,E,I⟩:=h.tm
 exact ⟨hm.gA a h.cells h1,h.rws.md hm (fun k hk cur z i=>a.no (dw i) h2 hk),h.rt.md hm (fun k hk cur z i=>a.no (dw i) h3 hk),⟨f,A.md hm J,C⟩,⟨g,E.md hm M,I⟩,cj h.on hm a h4,h.lo,h.ne⟩
theorem dy.wk {w w':World} {B:Nat} {H:dt} {F:aT} {R:gX} {rows:List Rw} {ln:Nat} {seen:List Tx} (h:dy w B H F R rows ln seen) (hm:Wk w w'):dy w' B H F R rows ln seen:=h.md (L:= []) hm (fun _ hk=>hk.elim) rfl id id
theorem dy.dq {w:World} {B:Nat} {H:dt} {F:aT} {R:gX} {rows:List Rw} {ln:Nat} {seen:List Tx} (h:dy w B H F R rows ln seen):Hb.aQ w.heap H.rb 2=some (.int .i64 (ln:Nat)):=(a7 h.cells).trans rfl
structure kH (F:aT) (rows:List Rw) (seen:List Tx):Prop where
 len:F.dm.length+F.aliases.length+F.bw.length+F.rules.length+rows.length≤70000
 sl:seen.length+rows.length≤70000
 row:∀ q∈rows,q.2≠[]∧q.2.length≤70000∧∀ x∈q.2,x.length≤70000
 kd:F.kind=1∨F.kind=2∨F.kind=3
 al:∀ l∈F.aliases,l.length≤64∧l.Pairwise (· < ·)
def St (w:World) (B:Nat) (H:dt) (F:aT) (rows:List Rw) (ln:Nat) (seen:List Tx):Prop := ∃ V R,dU w B H.fb H.mc F V∧dy w B H F R rows ln seen∧kH F rows seen
abbrev fA (B:Nat) (H:dt) (w w':World):Prop :=Mw [197,127,130,72,133,79,5] H.ms H.mt H.mc B w w'
theorem dy.dB {w w':World} {B:Nat} {H:dt} {F:aT} {R R':gX} {rows rows':List Rw} {ln ln':Nat} {seen:List Tx} (h:dy w B H F R rows ln seen) (hm:Md (fun k=>k=H.rb) w w') (C:w'.heap[H.rb]? =some (.cells (vk H R' ln').toArray 195 (0,0))) (M:R'.vn=R.vn) (I:mj w B 209 rows'.length R'.vr (kF R'.vs)) (J:gZ w B 9 R'.vs rows'):dy w' B H F R' rows' ln' seen:=by
 obtain ⟨f,q,E⟩:=h.sm
 obtain ⟨g,A,G⟩:=h.tm
 have a:TF w [197] (fun k=>k=H.rb):=TF.eq (dw h.cells) az
 exact ⟨C,I.md hm (fun k hk cur z i=>a.no (dw i) az hk),J.md hm (fun k hk cur z i=>a.no (dw i) az hk),⟨f,q.md hm (a.no (eE q) az),E⟩,⟨g,A.md hm (a.no (eE A) az),G⟩,M ▸ cj h.on hm a az,h.lo,h.ne⟩
theorem gZ.tl {w:World} {B e:Nat} {q:Nat×Value} {r:Rw} {vs:List (Nat×Value)} {rs:List Rw} (h:gZ w B e (q::vs) (r::rs)):gZ w B e vs rs:=⟨by have :=h.1; simpa using this,fun i a A h1 h2=>h.2 (i+1) a A h1 h2⟩
theorem dU.put {w w':World} {B fb mc:Nat} {F F':aT} {V:e6} (h:dU w B fb mc F V) (hm:Md (fun k=>k=fb) w w') (A:w'.heap[fb]? =some (.cells (oy F' V mc).toArray 125 (0,0))) (h1:F'.dm=F.dm) (h2:F'.aliases=F.aliases) (h3:F'.bw=F.bw) (h4:F'.rules=F.rules) (h5:F'.sp.length=5):dU w' B fb mc F' V:=by
 have a:TF w [127] (fun k=>k=fb):=TF.eq (dw h.cells) az
 have q:∀ k,k=fb→∀ cur z,w.heap[k]?≠some (.cells cur 51 z):=fu h.cells az
 obtain ⟨f,i,C⟩:=h.cm
 exact ⟨A,h1 ▸ cj h.o9 hm a az,h2 ▸ cj h.eT hm a az,h2 ▸ h.al.md hm q,h3 ▸ cj h.eu hm a az,h4 ▸ cj h.dD hm a az,h4 ▸ h.nx.md hm q,⟨f,i.md hm (a.no (eE i) az),h3 ▸ C⟩,h.lo,h5⟩
theorem dy.fb {w w':World} {B:Nat} {H:dt} {F i:aT} {V:e6} {R:gX} {rows:List Rw} {ln:Nat} {seen:List Tx} (h:dy w B H F R rows ln seen) (q:dU w B H.fb H.mc i V) (hm:Md (fun k=>k=H.fb) w w'):dy w' B H F R rows ln seen:=by
 have a:TF w [127] (fun k=>k=H.fb):=TF.eq (dw q.cells) az
 obtain ⟨f,A,E⟩:=h.sm
 obtain ⟨g,C,G⟩:=h.tm
 exact h.md hm a az (a.no (eE A) az)<|a.no (eE C) az
theorem dU.rb {w w':World} {B:Nat} {H:dt} {F a:aT} {V:e6} {R:gX} {rows:List Rw} {ln:Nat} {seen:List Tx} (h:dU w B H.fb H.mc a V) (q:dy w B H F R rows ln seen) (hm:Md (fun k=>k=H.rb) w w'):dU w' B H.fb H.mc a V:=by
 have i:TF w [197] (fun k=>k=H.rb):=TF.eq (dw q.cells) az
 obtain ⟨f,A,C⟩:=h.cm
 exact h.md hm i az<|i.no (eE A) az
theorem dy.congr {w:World} {B:Nat} {H:dt} {F F':aT} {R:gX} {rows:List Rw} {ln:Nat} {seen:List Tx} (h:dy w B H F R rows ln seen) (q:F'.rules=F.rules) (hd:∀ x,eG F' x=eG F x):dy w B H F' R rows ln seen:=by
 obtain ⟨g,a,i⟩:=h.tm
 exact ⟨h.cells,h.rws,h.rt,h.sm,⟨g,a,fun x A=>by rw [hd]; exact i x A⟩,q ▸ h.on,h.lo,h.ne⟩
theorem dy.uZ {w w':World} {B:Nat} {H:dt} {F F':aT} {R:gX} {rows:List Rw} {ln:Nat} {seen:List Tx} {f:Value→Option Value} (h:dy w B H F R rows ln seen) (hm:Md (fun k=>k=H.mt) w w') (q:du w'.heap H.mt (pE .u16) f) (G:F'.rules=F.rules) (hd:∀ x:Nat,x≠0→(f<|bg x).getD (.int .i64 0)= .int .i64 ((if eG F' x=true then 1 else 0:Nat):Nat)):dy w' B H F' R rows ln seen:=by
 obtain ⟨g,E,_⟩:=h.tm
 obtain ⟨f0,A,C⟩:=h.sm
 have a:TF w [1] (fun k=>k=H.mt):=TF.eq (eE E) az
 exact ⟨hm.gA a h.cells az,h.rws.md hm (fun k hk cur z i=>a.no (dw i) az hk),h.rt.md hm (fun k hk cur z i=>a.no (dw i) az hk),⟨f0,A.md hm h.ne.1,C⟩,⟨f,q,hd⟩,G ▸ cj h.on hm a az,h.lo,h.ne⟩
theorem dU.uZ {w w':World} {B:Nat} {H:dt} {F a:aT} {V:e6} {R:gX} {rows:List Rw} {ln:Nat} {seen:List Tx} (h:dU w B H.fb H.mc a V) (i:dy w B H F R rows ln seen) (hm:Md (fun k=>k=H.mt) w w'):dU w' B H.fb H.mc a V:=by
 obtain ⟨g,q,_⟩:=i.tm
 exact h.md (L:= [1]) hm (TF.eq (eE q) az) az fun h=>i.ne.2.2 h.symm
theorem fA.fb {w w':World} {B:Nat} {H:dt} {i:aT} {V:e6} (a:dU w B H.fb H.mc i V) (hm:Md (fun k=>k=H.fb) w w'):fA B H w w':=Mw.of hm (TF.eq (dw a.cells) az) fun k hk=>hk ▸ a.lo.1
theorem fA.rb {w w':World} {B:Nat} {H:dt} {F:aT} {R:gX} {rows:List Rw} {ln:Nat} {seen:List Tx} (a:dy w B H F R rows ln seen) (hm:Md (fun k=>k=H.rb) w w'):fA B H w w':=Mw.of hm (TF.eq (dw a.cells) az) fun k hk=>hk ▸ a.lo.1
theorem fA.mt {w w':World} {B:Nat} {H:dt} {F:aT} {R:gX} {rows:List Rw} {ln:Nat} {seen:List Tx} (a:dy w B H F R rows ln seen) (hm:Md (fun k=>k=H.mt) w w'):fA B H w w':=hm.mono fun k _ hk=>⟨hk ▸ a.lo.2.2,.inr<|.inl hk⟩
def jt (B:Nat) (H:dt) (seen:List Tx) (X:Except (Nat×Nat) (aT×List Rw)) (w:World) (v:Value) (w':World):Prop :=v= .tuple #[]∧∃ F' rows' ln',X= .ok (F',rows')∧St w' B H F' rows' ln' seen∧fA B H w w'
def js (B:Nat) (H:dt) (X:Except (Nat×Nat) (aT×List Rw)) (w:World) (c:List PanicEntry) (w':World):Prop := ∃ l e,X= .error (l,e)∧c=jm 47 l (e:Nat)∧fA B H w w'
def kp (F:aT) (seen:List Tx):Prop := ∀ k∈ec,k∉seen→F.sp.getD (ec.idxOf k) 0=0
theorem RM {F:aT} {i x:Nat} (hi:i < F.sp.length) (a:F.sp.getD i 0=0) (y:Nat) (C:y≠0):eG {F with sp:=F.sp.set i x} y=(decide (y=x) || eG F y):=by
 unfold eG
 show (decide (y∈F.sp.set i x) || _)=_
 rw [← Bool.or_assoc]
 congr 1
 rw [← Bool.decide_or,decide_eq_decide]
 constructor
 · intro h
   rcases Ej h with h | h
   · exact .inr h
   · exact .inl h
 · rintro (h | h)
   · subst h; exact List.mem_set hi _
   · obtain ⟨j,A⟩:=vZ h
     by_cases q:i=j
     · subst q
       rw [cV,A] at a
       exact absurd a C
     · exact iP (i:=j)<|by rw [kW,if_neg q]; exact A
theorem Tg.u0 {w:World} {B e A n cp b:Nat} {a:Option Addr} {xs:List Value} {cs:Array Value} {z:Nat×Nat} (h:Tg w B e n (.slice a n cp) xs) (J:xs≠[]) (i:w.heap[b]? =some (.cells cs A z)) (G:e≠A):¬(bk a=b):=by
 obtain ⟨M,O,I,_,E⟩:=h
 cases I
 rcases E with rfl | ⟨q,cur,z2,rfl,_,C,_⟩
 · exact absurd aa J
 · rintro rfl
   rw [show (bk<|some ⟨q,0,none⟩)=q from rfl] at i
   rw [C] at i
   simp only [fQ,vP] at i
   exact G i.2.1
theorem SX {F:aT} {V:e6} {mc i o x:Nat} (h5:F.sp.length=5) (hi:i < 5) (q:o=3 +i):(oy F V mc).set o (bg x)=oy {F with sp:=F.sp.set i x} V mc:=by
 subst q
 obtain ⟨k,cs,tr,sp,le,A,al,cl,ru⟩:=F
 match sp,h5 with
 | [a,b,c,d,e],_=>
   match i,hi with
   | 0,_=>rfl
   | 1,_=>rfl
   | 2,_=>rfl
   | 3,_=>rfl
   | 4,_=>rfl
theorem GG (b:Bool):decide (((if b=true then 1 else 0:Nat):Int)=0)= !b:=by cases b <;> rfl
theorem Lt {x y:Nat} (h:bg x=bg y):x=y:=by unfold bg at h; injection h with _ h; omega
theorem Lk {F F':aT} {f:Value→Option Value} {x:Nat} (hd:eG F x=false) (q:∀ y:Nat,y≠0→(f<|bg y).getD (.int .i64 0)= .int .i64 ((if eG F y=true then 1 else 0:Nat):Nat)) (i:∀ y,y≠0→eG F' y=(decide (y=x) || eG F y)) (y:Nat) (a:y≠0):(bV f (bg x) (.int .i64 (1:Nat))<|bg y).getD (.int .i64 0)= .int .i64 ((if eG F' y=true then 1 else 0:Nat):Nat):=by
 rw [i y a]
 by_cases h:y=x
 · subst h; rw [vd]; simp
 · rw [tj (fun h2=>h<|Lt h2),q y a]; simp [h]
theorem il {G:Nat→Prop} {w w':World} (h:Md G w.drew w'):Md G w w':=⟨h.os,h.output,h.size,h.cz⟩
theorem ez.get {w:World} {B e i:Nat} {vs:List Value} {a:List (List Nat)} (h:ez w B e vs a) (hi:i < a.length):∃ v,vs[i]? =some v∧Tg w B e (a.getD i []).length v ((a.getD i []).map bg):=by
 have h1:i < vs.length:=by rw [h.1]; exact hi
 refine ⟨vs[i],cD h1,h.2 i _ _ (cD h1) ?_⟩
 rw [cV,cD hi]; rfl
theorem Tg.tg {w:World} {B e n cp:Nat} {a:Option Addr} {xs:List Value} (h:Tg w B e n (.slice a n cp) xs) (A:xs.length=n) (i:a=none):n=0:=by
 obtain ⟨E,I,C,_,q⟩:=h
 cases C
 rcases q with rfl | ⟨G,cur,z2,h2,_⟩
 · exact A.symm
 · rw [i] at h2; cases h2
theorem Tg.Jd {G:Nat→Prop} {w w':World} {B e n:Nat} {v:Value} {xs:List Value} (h:Tg w B e n v xs) (hm:Md G w w') (A:∀ k,G k→k < B):Tg w' B e n v xs:=by
 obtain ⟨a,cp,rfl,i,h | ⟨b,cur,z,rfl,C,q,E⟩⟩:=h
 · exact ⟨a,cp,aa,i,.inl h⟩
 · exact ⟨_,cp,aa,i,.inr ⟨b,cur,z,aa,C,by rw [hm.cz b (cQ.1 q).1 (fun hk=>by have :=A b hk; omega)]; exact q,E⟩⟩
end Go.Hb.fk
end
