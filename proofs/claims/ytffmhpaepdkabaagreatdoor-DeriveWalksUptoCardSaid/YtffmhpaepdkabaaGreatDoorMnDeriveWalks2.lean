/-
  Walks and plain laws that the law rests on, laid together. No conditions but those that each theorem names.
-/
import Derived.Test.YtffmhpaepdkabaaGreatDoorMnDeriveWalks1
set_option linter.unusedVariables false
set_option maxRecDepth 20000
set_option maxHeartbeats 1000000
open Array renaming foldl_toList→MK,getElem?_eq_some_iff→dB,getElem?_setIfInBounds_ne→ML,getElem?_setIfInBounds_self_of_lt→MM,length_toList→wc,replicate→tZ,toList_inj→zz,toList_map→nz,toList_zip→MO
open Bool renaming and_eq_true→gU,noConfusion→eo,or_eq_false_iff→nA
open Classical renaming not_not→jr
open Except.ok renaming injEq→sg
open Go.Act renaming put_comm→sh
open Go.Calls renaming mono→lE
open Go.CallsD renaming mono→MW
open Go.CallsIn renaming mono→Ed
open Go.Code renaming wp_mono→MX
open Go.Deferred renaming ofValue→qY
open Go.Exit renaming inBlock→zD
open Go.Extern.BytealgCount renaming count→Z5
open Go.Extern.BytealgIndexByte renaming indexByte→Z6
open Go.Extern renaming find→M2,findNext→M3
open Go.Fence renaming wide→iQ
open Go.FrameMode renaming noConfusion→M4
open Go.Instr renaming beginRound→M6,checkKey→ub,field→M7,fill→oZ,findKey→zE,findNow→wj,keyThatStays→Ef,mapUpdate→Eg,sameBits→Na,sameNow→Eh,sliceAt→si,sliceBounds→o0,sureAddr→qZ,typeAssert→Nb
open Go.Lib renaming indexByte→Nc,run_clear_slice→Nd
open Go.Obj.cells renaming injEq→wo
open Go.Op renaming equalIn→o4
open Go.Oper renaming semAt_eq→Nf,semAt_none→wv,upon→k4,uponIn→q4,wp→j0
open Go.Program renaming underlying→Ng
open Go.Region renaming Mode→sn,binds→j4,ready→js
open Go.RoundIn renaming mono→Er
open Go.Rows renaming mono→Es
open Go.RowsIn renaming mono→Et
open Go.Sem renaming run→zI
open Go.Value renaming ownBlock→iW,slice→bS
open Go.Value.slice renaming injEq→mT
open Go.World renaming alloc_heap_new→zM,frozen?→No,ownsRow→bw,putObj→Np,putObj_heap_other→nB,putObj_heap_same→zN,setCell→zO,size_alloc→Nq
open List.Pairwise renaming filter→Z7,imp→Z8
open List renaming append_assoc→dH,append_nil→ei,eq_nil_of_length_eq_zero→fY,ext_getElem?→qa,flatMap_cons→rh,flatMap_nil→ND,foldl_cons→sv,getD_cons_succ→NF,getD_cons_zero→lT,getD_eq_getElem?_getD→da,getElem?_append_left→mm,getElem?_append_right→mV,getElem?_cons_zero→uj,getElem?_eq_getElem→cI,getElem?_eq_some_iff→fS,getElem?_map→iq,getElem?_of_mem→wS,getElem?_set→k5,getElem?_toArray→NH,length_append→bM,length_cons→c7,length_drop→fT,length_filter_le→zS,length_map→fM,length_nil→fU,length_replicate→ot,length_singleton→e9,length_take→dQ,mapM_toArray→wX,map_append→ir,map_cons→um,mem_append→jF,mem_cons→e7,mem_cons_of_mem→rj,mem_cons_self→uo,mem_flatMap→zU,mem_map→o7,mem_of_getElem?→iR,mem_or_eq_of_mem_set→EG,mem_range→uq,mem_singleton→j5,nodup_append→EH,nodup_cons→ur,not_mem_nil→uu,pairwise_lt_range→NP,pairwise_map→NQ,range→j6,replicate→kp,size_toArray→ou,take_append→xa,take_of_length_le→eU,take_take→NU,take_zero→ow
open Nat renaming add_sub_cancel→sx,ble→o8,blt→gG,le_refl→cD,le_trans→gk,min_eq_left→pc,mul_le_mul_right→sA,mul_one→pd,zero_le→jG
open Option renaming map_eq_some_iff→pj,map_some→mo
open Option.some renaming inj→rk,injEq→fV
open Prod renaming fst→mW
open Prod.mk renaming injEq→sD
open UInt8 renaming toNat→N4,toNat_inj→k6
open Go.Proofs.Tryz
open Go.RowKit

section
namespace Go.Hb
abbrev Tx:Type :=List UInt8
structure dm where
 flag:Nat
 kind:Nat
 ew:Bool
 first :Nat
 count:Nat
structure dp where
 kind:Nat
 flag:Nat
 ew:Bool
 strip:Tx
 add:Tx
 cond:Tx
 next :List Nat
 line:Nat
structure aU where
 kind:Nat
 rE:Tx
 tr:Tx
 sp:List Nat
 least:Nat
 dt:List (Tx×Tx)
 aliases:List (List Nat)
 bA:List dm
 rules:List dp
def ij:Tx:= [70,76,65,71]
def iL:Tx:= [83,69,84]
def iU:Tx:= [84,82,89]
def ki:Tx:= [78,69,69,68,65,70,70,73,88]
def kG:Tx:= [70,79,82,66,73,68,68,69,78,87,79,82,68]
def kV:Tx:= [75,69,69,80,67,65,83,69]
def lu:Tx:= [67,79,77,80,79,85,78,68,70,76,65,71]
def lP:Tx:= [78,79,83,85,71,71,69,83,84]
def kh:Tx:= [67,79,77,80,79,85,78,68,77,73,78]
def fk:Tx:= [82,69,80]
def eL:Tx:= [65,70]
def fH:Tx:= [80,70,88]
def du:Tx:= [83,70,88]
def rO:Tx:= [115,104,111,114,116]
def tz:Tx:= [108,111,110,103]
def vm:Tx:= [110,117,109]
def eh:List Tx:= [ki,kG,kV,lu,lP]
def width (k:Tx):Nat:=if k∈eh∨k=ij∨k=iL∨k=iU∨k=kh∨k=fk∨k=eL then 2 else if k=fH∨k=du then 4 else 0
def gI (w:Tx):Nat:=if w= []∨gy w=false then 21 else if 32 < w.length then 22 else 0
def eF (none:Bool) (fd:Tx):Except Nat Tx:=
 if none=true∧fd= [48] then .ok []
 else if (bD fd).2.2.2≠0 then .error (bD fd).2.2.2
 else if (bD fd).2.2.1=true then .error 114
 else if gI (bD fd).1≠0 then .error (gI (bD fd).1)
 else .ok (bD fd).1
def eb (cs:List dm) (x:Nat):Option dm:=cs.find? fun c=>decide (c.flag=x)
def eJ (f:aU) (x:Nat):Bool:=decide (x∈f.sp) || (eb f.bA x).isSome
noncomputable def gK (f:aU) (s:Tx):Except Nat Nat:=
 if (gP f.kind s).2≠0 then .error (gP f.kind s).2 else if eJ f (gP f.kind s).1=true then .error 115 else .ok (gP f.kind s).1
noncomputable def kT (kind:Nat) (s:Tx):Except Nat (List Nat):=if (ed kind s).2≠0 then .error (ed kind s).2 else .ok (ed kind s).1
noncomputable def e5 (s:Tx) (most:Int):Except Nat Nat:=if (ee s most).2≠0 then .error 13 else .ok (ee s most).1
noncomputable def fX (kind:Nat) (al:List (List Nat)) (s:Tx):Except Nat (List Nat):=
 if al= [] then kT kind s
 else match e5 s al.length with
  | .error _=> .error 13
  | .ok n=>if n=0 then .error 13 else .ok (al.getD (n - 1) [])
noncomputable def kY (kind:Nat) (al:List (List Nat)) (a:Nat) (r:lI):Except Nat (List Nat):=
 if r.2.2.1=true then (if a=1 then .error 118 else fX kind al r.2.1) else .ok []
def kR (row:List Tx):Except Nat Tx:=
 if row.length=5 then (if gy (row.getD 4 [])=false then .error 21 else if (dq<|row.getD 4 []).2≠0 then .error (dq<|row.getD 4 []).2 else .ok (me (dq<|row.getD 4 []).1)) else .ok [46]
def jK (r:lI):Except Nat Tx:=if r.2.2.2≠0 then .error r.2.2.2 else if r.1= [48] then .ok [] else if gI r.1≠0 then .error (gI r.1) else .ok r.1
noncomputable def fI (kind:Nat) (al:List (List Nat)) (c:dm) (ln:Nat) (row:List Tx):Except Nat dp:=
 if row.length≠4∧row.length≠5 then .error 111
 else match eF true (row.getD 2 []) with
  | .error e=> .error e
  | .ok st=>match jK (bD<|row.getD 3 []) with
    | .error e=> .error e
    | .ok ad=>match kY kind al c.kind (bD<|row.getD 3 []) with
      | .error e=> .error e
      | .ok nx=>match kR row with
        | .error e=> .error e
        | .ok cd=> .ok ⟨c.kind,c.flag,c.ew,st,ad,cd,nx,ln⟩
def kJ (ln:Nat) (row:List Tx):Except Nat (Tx×Tx):=
 if row.length≠3 then .error 111
 else match eF false (row.getD 1 []) with
  | .error e=> .error e
  | .ok a=>match eF true (row.getD 2 []) with
    | .error e=> .error e
    | .ok b=> .ok (a,b)
noncomputable def ky (kind:Nat) (ln:Nat) (row:List Tx):Except Nat (List Nat):=if row.length≠2 then .error 111 else kT kind (row.getD 1 [])
def group {α:Type} (hd:List Tx) (rd:Nat→List Tx→Except Nat α) (eof:Nat):Nat→List Rw→Except (Nat×Nat) (List α×List Rw)
 | 0,rows=> .ok ([],rows)
 | _+1,[]=> .error (eof,116)
 | n+1,(ln,row)::rows=>if row.take hd.length≠hd then .error (ln,116) else match rd ln row with
   | .error e=> .error (ln,e)
   | .ok x=>match group hd rd eof n rows with
     | .error e=> .error e
     | .ok r=> .ok (x::r.1,r.2)
def jy (s:Tx):Nat:=if s=rO then 1 else if s=tz then 2 else if s=vm then 3 else 0
def ordered (hs:List Tx):Bool:= !hs.any fun h=>decide (h∈eh∨h=eL∨h=fH∨h=du)
noncomputable def gO (eof:Nat) (f:aU) (rows:List Rw) (ln:Nat) (row:List Tx):Except (Nat×Nat) (aU×List Rw):=
 match gK f (row.getD 1 []) with
 | .error e=> .error (ln,e)
 | .ok x=>if row.getD 2 []≠[89]∧row.getD 2 []≠[78] then .error (ln,114)
   else match e5 (row.getD 3 []) 1024 with
    | .error e=> .error (ln,e)
    | .ok n=>if 1024 < f.rules.length+n then .error (ln,117)
      else match group [row.getD 0 [],row.getD 1 []] (fI f.kind f.aliases ⟨x,if row.getD 0 []=du then 2 else 1,decide (row.getD 2 []= [89]),f.rules.length,n⟩) eof n rows with
       | .error e=> .error e
       | .ok r=> .ok ({f with bA:=f.bA++ [⟨x,if row.getD 0 []=du then 2 else 1,decide (row.getD 2 []= [89]),f.rules.length,n⟩],rules:=f.rules++r.1},r.2)
noncomputable def ko (f:aU) (rows:List Rw) (ln:Nat) (row:List Tx):Except (Nat×Nat) (aU×List Rw):=
 match gK f (row.getD 1 []) with
 | .error e=> .error (ln,e)
 | .ok x=> .ok ({f with sp:=f.sp.set (eh.idxOf<|row.getD 0 []) x},rows)
def kH (f:aU) (hs:List Tx) (rows:List Rw) (ln:Nat) (row:List Tx):Except (Nat×Nat) (aU×List Rw):=
 if ordered hs=false then .error (ln,113) else if jy (row.getD 1 [])=0 then .error (ln,114) else .ok ({f with kind:=jy<|row.getD 1 []},rows)
def mN (f:aU) (rows:List Rw) (ln:Nat) (row:List Tx):Except (Nat×Nat) (aU×List Rw):=
 if gy (row.getD 1 [])=false then .error (ln,21) else .ok ({f with rE:=row.getD 1 []},rows)
def mR (f:aU) (rows:List Rw) (ln:Nat) (row:List Tx):Except (Nat×Nat) (aU×List Rw):=
 if (letE<|row.getD 1 []).2≠0 then .error (ln,(letE<|row.getD 1 []).2) else .ok ({f with tr:=(letE<|row.getD 1 []).1},rows)
noncomputable def kX (f:aU) (rows:List Rw) (ln:Nat) (row:List Tx):Except (Nat×Nat) (aU×List Rw):=
 match e5 (row.getD 1 []) 64 with
 | .error e=> .error (ln,e)
 | .ok n=>if n=0 then .error (ln,13) else .ok ({f with least:=n},rows)
noncomputable def km (eof:Nat) (f:aU) (rows:List Rw) (ln:Nat) (row:List Tx):Except (Nat×Nat) (aU×List Rw):=
 match e5 (row.getD 1 []) 256 with
 | .error e=> .error (ln,e)
 | .ok n=>match group [fk] kJ eof n rows with
   | .error e=> .error e
   | .ok r=> .ok ({f with dt:=f.dt++r.1},r.2)
noncomputable def jU (eof:Nat) (f:aU) (hs:List Tx) (rows:List Rw) (ln:Nat) (row:List Tx):Except (Nat×Nat) (aU×List Rw):=
 if fH∈hs∨du∈hs then .error (ln,113)
 else match e5 (row.getD 1 []) 1024 with
  | .error e=> .error (ln,e)
  | .ok n=>match group [eL] (ky f.kind) eof n rows with
    | .error e=> .error e
    | .ok r=> .ok ({f with aliases:=f.aliases++r.1},r.2)
noncomputable def cw (eof:Nat) (f:aU) (hs:List Tx) (rows:List Rw) (ln:Nat) (row:List Tx):Except (Nat×Nat) (aU×List Rw):=
 if row.getD 0 []∈eh then ko f rows ln row
 else if row.getD 0 []=ij then kH f hs rows ln row
 else if row.getD 0 []=iL then mN f rows ln row
 else if row.getD 0 []=iU then mR f rows ln row
 else if row.getD 0 []=kh then kX f rows ln row
 else if row.getD 0 []=fk then km eof f rows ln row
 else if row.getD 0 []=eL then jU eof f hs rows ln row
 else gO eof f rows ln row
noncomputable def gM (eof:Nat):Nat→aU→List Tx→List Rw→Except (Nat×Nat) aU
 | 0,f,_,rows=>if rows= [] then .ok f else .error (0,0)
 | _+1,f,_,[]=> .ok f
 | k+1,f,hs,(ln,row)::rows=>
   if width (row.getD 0 [])=0 then .error (ln,110)
   else if row.length≠width (row.getD 0 []) then .error (ln,111)
   else if width (row.getD 0 [])=2∧row.getD 0 []∈hs then .error (ln,112)
   else match cw eof f hs rows ln row with
    | .error e=> .error e
    | .ok r=>gM eof k r.1 (hs++ [row.getD 0 []]) r.2
def mH (f:aU) (x:Nat):Bool:=decide (x=f.sp.getD 0 0) || (match eb f.bA x with | some c=>decide (c.kind=2) | none=>false)
def nK (f:aU) (r:dp):Bool:=r.next.any fun x=> !mH f x
def hZ:aU:=⟨1,[],[],[0,0,0,0,0],3,[],[],[],[]⟩
noncomputable def fy (t:Tx):Except (Nat×Nat) aU:=
 if 65536 < t.length then .error (0,10)
 else match gM ((bL t).length+1) (bR t).length hZ [] (bR t) with
  | .error e=> .error e
  | .ok f=>match f.rules.find? (nK f) with
    | some r=> .error (r.line,118)
    | none=> .ok f
theorem yx {α:Type} {hd:List Tx} {rd:Nat→List Tx→Except Nat α} {eof:Nat} :∀ (n:Nat) (rows:List Rw) (r:List α×List Rw),group hd rd eof n rows= .ok r→r.2.length≤rows.length∧r.1.length=n∧∀ q∈r.2,q∈rows:=by
 intro n
 induction n with
 | zero=>intro rows r h; simp only [group,sg] at h; subst h; exact ⟨cD _,rfl,fun q a=>a⟩
 | succ n i=>
   intro rows r h
   cases rows with
   | nil=>simp [group] at h
   | cons q rows=>
     obtain ⟨ln,row⟩:=q
     simp only [group] at h
     split at h
     · cases h
     · cases hr:rd ln row with
       | error e=>rw [hr] at h; cases h
       | ok x=>
         rw [hr] at h
         simp only at h
         cases hg:group hd rd eof n rows with
         | error e=>rw [hg] at h; cases h
         | ok A=>
           rw [hg] at h
           simp only [sg] at h
           subst h
           have :=i rows A hg
           refine ⟨by simp only [c7]; omega,by simp only [c7]; omega,fun q a=>rj _<|this.2.2 q a⟩
def iY {α:Type} (hd:List Tx) (rd:Nat→List Tx→Except Nat α) (eof:Nat) (T:Except (Nat×Nat) (List α×List Rw)) (xs:List α) (n:Nat) (rows:List Rw):Prop :=
 T=match group hd rd eof n rows with
  | .error e=> .error e
  | .ok r=> .ok (xs++r.1,r.2)
theorem iY.start {α:Type} {hd:List Tx} {rd:Nat→List Tx→Except Nat α} {eof n:Nat} {rows:List Rw} :iY hd rd eof (group hd rd eof n rows) [] n rows:=by
 unfold iY; cases group hd rd eof n rows <;> rfl
section
variable {α:Type} {hd:List Tx} {rd:Nat→List Tx→Except Nat α} {eof n:Nat} {T:Except (Nat×Nat) (List α×List Rw)} {xs:List α} {rows:List Rw} {ln:Nat} {row:List Tx}
theorem iY.ends (h:iY hd rd eof T xs n []) (hn:0 < n):T= .error (eof,116):=by
 obtain ⟨m,rfl⟩:∃ m,n=m+1:=⟨n - 1,ab⟩
 exact h
theorem iY.other (h:iY hd rd eof T xs n ((ln,row)::rows)) (hn:0 < n) (a:row.take hd.length≠hd):T= .error (ln,116):=by
 obtain ⟨m,rfl⟩:∃ m,n=m+1:=⟨n - 1,ab⟩
 unfold iY at h; simp only [group] at h; rw [if_pos a] at h; exact h
theorem iY.bad {e:Nat} (h:iY hd rd eof T xs n ((ln,row)::rows)) (hn:0 < n) (a:row.take hd.length=hd) (he:rd ln row= .error e):T= .error (ln,e):=by
 obtain ⟨m,rfl⟩:∃ m,n=m+1:=⟨n - 1,ab⟩
 unfold iY at h; simp only [group] at h; rw [if_neg (fun h2=>h2 a),he] at h; exact h
theorem iY.step {x:α} (h:iY hd rd eof T xs n ((ln,row)::rows)) (hn:0 < n) (a:row.take hd.length=hd) (he:rd ln row= .ok x):iY hd rd eof T (xs++ [x]) (n - 1) rows:=by
 obtain ⟨m,rfl⟩:∃ m,n=m+1:=⟨n - 1,ab⟩
 unfold iY at h ⊢; simp only [group] at h; rw [if_neg (fun h2=>h2 a),he] at h
 simp only [sx] at h ⊢
 rw [h]
 cases group hd rd eof m rows with
 | error e=>rfl
 | ok r=>simp only [dH]; rfl
theorem iY.done (h:iY hd rd eof T xs 0 rows):T= .ok (xs,rows):=by
 unfold iY at h; simpa [group] using h
end
end Go.Hb
end
section
set_option linter.unusedSimpArgs false
namespace Go.Hb
open Classical
structure oz (P:Program) (k:TypeId) (isK:Value→Prop):Prop where
 key:xh P k isK
 stays:∀ w v,isK v→(Ef v v).run P w= .ok v w
def jo (v:Value):Prop := ∃ s:List UInt8,v=str s
def pO (q:IntKind) (v:Value):Prop := ∃ a:Int,v= .int q a
theorem HM {d:TypeDesc} {isK:Value→Prop} (hs:∀ x y,isK x→isK y→∃ a,Eh d x y=some a∧(a=true↔x=y)) {x:Value} (C:isK x):∀ (es:List MapEntry) (i:Nat),(∀ e∈es,isK e.key)→
 (wj d x es i=some none∧∀ e∈es,e.key≠x)∨∃ j e,wj d x es i=some (some (i+j,e.val))∧es[j]? =some e∧e.key=x
 | [],i,_=> .inl ⟨rfl,fun _ h=>by simp at h⟩
 | e::es,i,h=>by
   obtain ⟨a,h1,h2⟩:=hs x e.key C<|h e<|by simp
   cases a with
   | true =>exact .inr ⟨0,e,by simp [wj,h1],rfl,(h2.1 rfl).symm⟩
   | false =>
     have G:e.key≠x:=fun E=>by cases h2.2 E.symm
     rcases HM hs C es (i+1) (fun e he=>h e<|by simp [he]) with ⟨h3,h4⟩ | ⟨j,q,h3,h4,h5⟩
     · refine .inl ⟨by simp [wj,h1,h3],fun q A=> ?_⟩
       rcases e7.1 A with rfl | A
       · exact G
       · exact h4 q A
     · refine .inr ⟨j+1,q,?_,h4,h5⟩
       simp only [wj,h1,h3]; rw [show i+1 +j=i+(j+1) from by omega]
theorem Jm {P:Program} {k:TypeId} {d:TypeDesc} {isK:Value→Prop} (hk:P.underlying k=some d) (hs:∀ x y,isK x→isK y→∃ a,Eh d x y=some a∧(a=true↔x=y)) (i:∀ em w v,isK v→(ub em 10000 k v).run P w= .ok () w):xh P k isK where
 check:=i
 find w x es hx hes:=by
  rcases HM hs hx es 0 hes with ⟨h1,h2⟩ | ⟨j,e,h1,h2,h3⟩
  · exact .inl ⟨by simp [zE,eA hk,h1],h2⟩
  · exact .inr ⟨j,e,by simp [zE,eA hk,h1],h2,h3⟩
theorem Fp (a b:ByteArray):(a==b)=decide (a=b):=by
 rw [Bool.eq_iff_iff,decide_eq_true_iff]
 show ((a.data==b.data)=true)↔_
 rw [beq_iff_eq]
 exact ⟨fun h=>by cases a; cases b; cases h; rfl,fun h=>by rw [h]⟩
theorem Vz {P:Program} {k:TypeId} (hk:P.underlying k=some .string):oz P k jo where
 key:=Jm hk (by
  rintro _ _ ⟨a,rfl⟩ ⟨b,rfl⟩
  refine ⟨_,aa,?_⟩
  rw [Fp,decide_eq_true_iff]
  constructor
  · intro h; unfold str; rw [h]
  · intro h; unfold str at h; cases h; rfl) (by rintro em w _ ⟨a,rfl⟩; exact Q0 (n:=9999) hk w)
 stays w v hv:=by obtain ⟨a,rfl⟩:=hv; simp [Ef,Na,str,Fp]
theorem QZ {P:Program} {k:TypeId} {q r:IntKind} {em:Bool} {n:Nat} {a:Int} (hk:P.underlying k=some (.int q)) (w:World):(ub em (n+1) k<|.int r a).run P w= .ok () w:=by
 simp only [ub,Sem.run_bind,eA hk,Result.andThen_ok,Sem.run_pure]
theorem Vy {P:Program} {k:TypeId} {q r:IntKind} (hk:P.underlying k=some (.int q)):oz P k (pO r) where
 key:=Jm hk (by
  rintro _ _ ⟨a,rfl⟩ ⟨b,rfl⟩
  refine ⟨decide (a=b),by simp [Eh]; rfl,?_⟩
  rw [decide_eq_true_iff]
  exact ⟨fun h=>by rw [h],fun h=>by cases h; rfl⟩) (by rintro em w _ ⟨a,rfl⟩; exact QZ (n:=9999) hk w)
 stays w v hv:=by obtain ⟨a,rfl⟩:=hv; simp [Ef,Na]
def dy (h:Array Obj) (b:Nat) (isK:Value→Prop) (f:Value→Option Value):Prop :=
 ∃ kvs,rm h b kvs∧(∀ p∈kvs,isK p.1)∧(kvs.map mW).Nodup∧∀ k v,f k=some v↔(k,v)∈kvs
theorem dy.md {F:Nat→Prop} {w w':World} {b:Nat} {isK:Value→Prop} {f:Value→Option Value} (h:dy w.heap b isK f) (hm:Md F w w') (a:¬F b):dy w'.heap b isK f:=
 let ⟨kvs,h1,h2⟩:=h; ⟨kvs,h1.md hm a,h2⟩
theorem dy.wk {w w':World} {b:Nat} {isK:Value→Prop} {f:Value→Option Value} (h:dy w.heap b isK f) (hm:Wk w w'):dy w'.heap b isK f:=h.md hm id
theorem dy.nil {h:Array Obj} {b:Nat} {isK:Value→Prop} {c:Nat} (hm:h[b]? =some (.map #[] c)):dy h b isK fun _=>none:=
 ⟨[],⟨_,_,hm,rfl⟩,fun p hp=>(by simp at hp),(by simp),fun k v=>by simp⟩
theorem dy.isMap {h:Array Obj} {b:Nat} {isK:Value→Prop} {f:Value→Option Value} (hm:dy h b isK f):∃ es c,h[b]? =some (.map es c):=let ⟨_,⟨es,c,h1,_⟩,_⟩:=hm; ⟨es,c,h1⟩
theorem dy.pP {h:Array Obj} {b:Nat} {isK:Value→Prop} {f:Value→Option Value} (hm:dy h b isK f) {cur:Array Value} {e:TypeId} {z:Nat×Nat} :h[b]?≠some (.cells cur e z):=by
 obtain ⟨es,c,h1⟩:=hm.isMap; rw [h1]; intro h; cases h
noncomputable def bW (f:Value→Option Value) (k v:Value):Value→Option Value:=fun q=>if q=k then some v else f q
theorem vB (f:Value→Option Value) (k v:Value):bW f k v k=some v:=if_pos rfl
theorem tE {f:Value→Option Value} {k v q:Value} (h:q≠k):bW f k v q=f q:=if_neg h
section
variable {P:Program} {N:Fm} {σ:Nat→Value} {w:World} {dst:Option Nat} {ty:TypeId} {pos :String} {af:Array Edge} {g:Option (Nat×Bool)} {x y z:Operand} {K:(Nat→Value)→World→Prop}
variable {t k e:TypeId} {isK:Value→Prop} {b:Nat} {f:Value→Option Value} {kx v zv:Value}
theorem JA {ok:Bool} (q:P.underlying t=some (.map k e)) (E:zeroV P e=some zv) (i:oz P k isK) (hm:dy w.heap b isK f) (A:ev N σ x= .map (some b)) (C:ev N σ y=kx) (hi:isK kx):
 (execOp (ev N σ) ⟨dst,.lookup t x y ok,ty,pos,af,g⟩).run P w= .ok (.value (if ok then .tuple #[(f kx).getD zv,.bool (f kx).isSome] else (f kx).getD zv)) w:=by
 obtain ⟨kvs,h1,h2,h3,h4⟩:=hm
 cases hf:f kx with
 | none=>exact VQ q E i.key h1 h2 A C hi fun v a=>by rw [← h4] at a; rw [hf] at a; cases a
 | some v=>exact VP q i.key h1 h2 A C hi h3<|(h4 kx v).1 hf
theorem oM (i:P.underlying t=some (.map k e)) (E:zeroV P e=some zv) (a:oz P k isK) (hm:dy w.heap b isK f) (A:ev N σ x= .map (some b)) (C:ev N σ y=kx) (hi:isK kx) (q:(f kx).getD zv=v):
 (execOp (ev N σ) ⟨dst,.lookup t x y false,ty,pos,af,g⟩).run P w= .ok (.value v) w:=by
 rw [JA i E a hm A C hi,q]; rfl
theorem JB {ob:Bool} (q:P.underlying t=some (.map k e)) (G:zeroV P e=some zv) (a:oz P k isK) (hm:dy w.heap b isK f) (C:ev N σ x= .map (some b)) (E:ev N σ y=kx) (hi:isK kx) (A:(f kx).getD zv=v) (i:(f kx).isSome=ob):
 (execOp (ev N σ) ⟨dst,.lookup t x y true,ty,pos,af,g⟩).run P w= .ok (.value<|.tuple #[v,.bool ob]) w:=by
 rw [JA q G a hm C E hi,A,i]; rfl
theorem Mf (ae:P.underlying t=some (.map k e)) (M:oz P k isK) (hm:dy w.heap b isK f) (hi:isK kx):
 ∃ w',(Eg t (.map<|some b) kx v).run P w= .ok () w'∧Md (fun j=>j=b) w w'∧dy w'.heap b isK (bW f kx v):=by
 obtain ⟨kvs,⟨es,c,J,he⟩,h2,h3,h4⟩:=hm
 have V:=(dB.1 J).1
 rcases M.key.find w kx es.toList hi (By he h2) with ⟨h1,an⟩ | ⟨j,U,h1,E,h5⟩
 · have ac:∀ u,(kx,u)∉kvs:=fun u hu=>by
    rw [← he] at hu
    obtain ⟨ag,ak,ah⟩:=o7.1 hu
    cases ah
    exact an ag ak aa
   refine ⟨{w with heap:=w.heap.setIfInBounds b<|.map (es.push {key:=kx,val:=v,born:=c})<|c+1},by simp [Eg,eA ae,run_getObj_map J,M.key.check _ w kx hi,h1,setObj,zI,J],⟨aa,aa,by simp,fun i _ G=>by simp only; rw [ML (fun e=>G e.symm)]⟩,kvs++ [(kx,v)],⟨_,_,by simp only; rw [MM V],by simp [he]⟩,?_,?_,?_⟩
   · intro p hp
     rcases jF.1 hp with hp | hp
     · exact h2 p hp
     · rw [j5.1 hp]; exact hi
   · rw [ir,EH]
     refine ⟨h3,by simp,?_⟩
     intro a ai ap Y aj
     simp at Y
     subst aj Y
     obtain ⟨p,hp,ao⟩:=o7.1 ai
     exact ac p.2<|by rw [← ao]; exact hp
   · intro q u
     unfold bW
     rw [jF,j5]
     by_cases C:q=kx
     · subst C
       rw [if_pos rfl]
       constructor
       · intro h; cases h; exact .inr rfl
       · rintro (h | h)
         · exact absurd h<|ac u
         · cases h; rfl
     · rw [if_neg C,h4]
       constructor
       · exact .inl
       · rintro (h | h)
         · exact h
         · cases h; exact absurd rfl C
 · have aq:j < es.size:=by have :=(fS.1 E).1; simpa using this
   have Z:es[j]? =some U:=by simpa using E
   refine ⟨{w with heap:=w.heap.setIfInBounds b<|.map (es.modify j fun e=> {e with key:=kx,val:=v}) c},?_,⟨aa,aa,by simp,fun i _ G=>by simp only; rw [ML (fun e=>G e.symm)]⟩,kvs.set j (kx,v),⟨_,_,by simp only; rw [MM V],?_⟩,?_,?_,?_⟩
   · have hs:=M.stays w kx hi
     simp [Eg,eA ae,run_getObj_map J,M.key.check _ w kx hi,h1,Z,h5,hs,setObj,zI,J]
   · rw [← he]
     apply qa
     intro i
     simp only [Array.toList_modify,iq,List.getElem?_modify,k5,fM]
     by_cases I:j=i
     · subst I; rw [E]; simp; have :=(fS.1 E).1; simpa using this
     · simp [I]
   · intro p hp
     rcases EG hp with hp | hp
     · exact h2 p hp
     · rw [hp]; exact hi
   · have :(kvs.set j (kx,v)).map mW=kvs.map mW:=by
      apply qa
      intro i
      simp only [iq,k5]
      by_cases I:j=i
      · subst I
        rw [← he]; simp only [iq,E,fM]
        have :=(fS.1 E).1
        simp [this,h5]
        simpa using this
      · simp [I]
     rw [this]; exact h3
   · intro q u
     have O:kvs[j]? =some (kx,U.val):=by rw [← he]; simp [E,h5,Z]
     have ab:=(fS.1 O).1
     have am:(kx,v)∈kvs.set j (kx,v):=iR (i:=j)<|by rw [k5,if_pos rfl,if_pos ab]
     unfold bW
     by_cases C:q=kx
     · subst C
       rw [if_pos rfl]
       constructor
       · intro h; cases h; exact am
       · intro h
         obtain ⟨i,A⟩:=wS h
         rw [k5] at A
         split at A
         · rename_i al
           subst al
           cases A; rfl
         · rename_i G
           exfalso
           exact G<|(List.getElem?_inj (i:=j) (j:=i) (by simpa using ab) h3).1<|by simp [O,A]
     · rw [if_neg C,h4]
       constructor
       · intro h
         obtain ⟨i,A⟩:=wS h
         have G:j≠i:=by rintro rfl; rw [O] at A; cases A; exact C rfl
         exact iR (i:=i)<|by rw [k5,if_neg G]; exact A
       · intro h
         rcases EG h with h | h
         · exact h
         · cases h; exact absurd rfl C
theorem tQ (q:P.underlying t=some (.map k e)) (a:oz P k isK) (hm:dy w.heap b isK f) (A:ev N σ x= .map (some b)) (C:ev N σ y=kx) (E:ev N σ z=v) (hi:isK kx)
 (G:∀ w',Md (fun j=>j=b) w w'→dy w'.heap b isK (bW f kx v)→K σ w'):dV P N ⟨none,.mapUpdate t x y z,ty,pos,af,g⟩ σ w K:=by
 obtain ⟨w',h1,h2,h3⟩:=Mf (v:=v) q a hm hi
 have i:(execOp (ev N σ) ⟨none,.mapUpdate t x y z,ty,pos,af,g⟩).run P w= .ok .skip w':=by
  simp [execOp,A,C,E,h1]
 unfold dV j0
 rw [hU,i]
 exact ⟨σ,aa,G w' h2 h3⟩
theorem mE (q:P.underlying t=some (.map k e)) (a:oz P k isK) (hm:dy w.heap b isK f) (A:ev N σ x= .map (some b)) (C:ev N σ y=kx) (E:ev N σ z=v) (hi:isK kx)
 (G:∀ w',Md (fun j=>j=b) w w'→dy w'.heap b isK (bW f kx v)→K σ w'):dV P N ⟨none,.insert t x y z,ty,pos,af,g⟩ σ w K:=by
 obtain ⟨w',h1,h2,h3⟩:=Mf (v:=v) q a hm hi
 have i:(execOp (ev N σ) ⟨none,.insert t x y z,ty,pos,af,g⟩).run P w= .ok .skip w':=by
  simp [execOp,A,C,E,h1]
 unfold dV j0
 rw [hU,i]
 exact ⟨σ,aa,G w' h2 h3⟩
end
end Go.Hb
end
section
namespace Go.Hb
section
variable {P:Program} {N:Fm} {σ:Nat→Value} {w:World} {fn:Func} {R:Value→World→Prop}
theorem VW {t b off :Nat} {v:Value} (hu:dF P t=some none) (a:Hb.aR w.heap b off =some v):(loadVar t ⟨b,off,none⟩).run P w= .ok v w:=by
 have i:w.cell? ⟨b,off,none⟩=some v:=by rw [nL]; exact a
 unfold dF at hu
 cases hd:P.underlying t with
 | none=>rw [hd] at hu; cases hu
 | some d=>
   rw [hd] at hu
   cases d <;> first
    | (simp only [pj] at hu; obtain ⟨_,_,h⟩:=hu; cases h; done)
    | simp [loadVar,isAgg,eA hd,run_load,i]
theorem VX {t n b off :Nat} {cs:List Value} (hu:dF P t=some (some n)) (C:cs.length=n) (q:∀ j,j < n→Hb.aR w.heap b (off+j)=cs[j]?):(loadVar t ⟨b,off,none⟩).run P w= .ok (.agg cs.toArray) w:=by
 have A:(loadCells ⟨b,off,none⟩ n).run P w= .ok cs.toArray w:=by
  subst C
  refine run_loadCells_list (P:=P) w ⟨b,off,none⟩ cs fun j v a=> ?_
  rw [mx,nL]
  exact (q j (fS.1 a).1).trans a
 unfold dF at hu
 cases hd:P.underlying t with
 | none=>rw [hd] at hu; cases hu
 | some d=>
   rw [hd] at hu
   cases hi:P.info? t with
   | none=>simp [Ng,hi] at hd
   | some i=>
     rw [hi] at hu
     cases d <;> first
      | (cases hu; done)
      | (simp only [mo,fV] at hu; subst hu
         simp [loadVar,isAgg,eA hd,sizeOf,jh hi,A])
def mY (P:Program) (N:Fm) (σ:Nat→Value) (w:World):ResultVar→Value→Prop
 | .tmp t,v=>ev N σ (.tmp t)=v
 | .cell a t,v=> ∃ ad,ev N σ (.tmp a)= .pointer (some ad)∧(loadVar t ad).run P w= .ok v w
theorem ej {t:Tmp} :mY P N σ w (.tmp t) (ev N σ<|.tmp t):=rfl
theorem vJ {a t b off :Nat} {v:Value} (q:ev N σ (.tmp a)= .pointer (some ⟨b,off,none⟩)) (hu:dF P t=some none) (i:Hb.aR w.heap b off =some v):mY P N σ w (.cell a t) v:=⟨_,q,VW hu i⟩
theorem dT {a t n b off :Nat} {cs:List Value} (A:ev N σ (.tmp a)= .pointer (some ⟨b,off,none⟩)) (hu:dF P t=some (some n)) (q:cs.length=n) (i:∀ j,j < n→Hb.aR w.heap b (off+j)=cs[j]?):mY P N σ w (.cell a t) (.agg cs.toArray):=⟨_,A,VX hu q i⟩
def oR (tmps:Array Value):ResultVar→Sem Value
 | .tmp t=>pure<|tmps.getD t undef
 | .cell a t=>do loadVar t (← asAddr (tmps.getD a undef))
theorem mL {r:ResultVar} {v:Value} (h:mY P N σ w r v):(oR (act N σ).tmps r).run P w= .ok v w:=by
 cases r with
 | tmp t=>
   show zI P (pure<|(act N σ).tmps.getD t undef) w=_
   rw [mQ]; simp only [mY] at h; rw [h]; rfl
 | cell a t=>
   obtain ⟨ad,h1,h2⟩:=h
   show zI P (do loadVar t (← asAddr ((act N σ).tmps.getD a undef))) w=_
   rw [mQ,h1]
   simp [asAddr,h2]
theorem KW {tmps:Array Value} {r:ResultVar} {v:Value} (h:fn.results= #[r]) (h1:(oR tmps r).run P w= .ok v w):(results fn tmps).run P w= .ok v w:=by
 have a:(results fn tmps)=(do let vs ← #[r].mapM (oR tmps); pure (if h:vs.size=1 then vs[0] else .tuple vs)):=by
  unfold results; rw [h]; rfl
 rw [a]; simp [wX,h1]
theorem yX {tmps:Array Value} {r s:ResultVar} {v u:Value} (h:fn.results= #[r,s]) (h1:(oR tmps r).run P w= .ok v w) (h2:(oR tmps s).run P w= .ok u w):(results fn tmps).run P w= .ok (.tuple #[v,u]) w:=by
 have a:(results fn tmps)=(do let vs ← #[r,s].mapM (oR tmps); pure (if h:vs.size=1 then vs[0] else .tuple vs)):=by
  unfold results; rw [h]; rfl
 rw [a]; simp [wX,h1,h2]
theorem XL {tmps:Array Value} {r s q:ResultVar} {v u z:Value} (h:fn.results= #[r,s,q]) (h1:(oR tmps r).run P w= .ok v w) (h2:(oR tmps s).run P w= .ok u w) (h3:(oR tmps q).run P w= .ok z w):(results fn tmps).run P w= .ok (.tuple #[v,u,z]) w:=by
 have a:(results fn tmps)=(do let vs ← #[r,s,q].mapM (oR tmps); pure (if h:vs.size=1 then vs[0] else .tuple vs)):=by
  unfold results; rw [h]; rfl
 rw [a]; simp [wX,h1,h2,h3]
theorem uQ {r:ResultVar} {v:Value} (h:fn.results= #[r]) (h1:mY P N σ w r v) (a:R v w):fin P fn N R .ret σ w:=⟨v,KW h (mL h1),a⟩
theorem eD {r s:ResultVar} {v u:Value} (h:fn.results= #[r,s]) (h1:mY P N σ w r v) (h2:mY P N σ w s u) (a:R (.tuple #[v,u]) w):fin P fn N R .ret σ w:=⟨_,yX h (mL h1) (mL h2),a⟩
theorem HG {r s q:ResultVar} {v u z:Value} (h:fn.results= #[r,s,q]) (h1:mY P N σ w r v) (h2:mY P N σ w s u) (h3:mY P N σ w q z) (a:R (.tuple #[v,u,z]) w):fin P fn N R .ret σ w:=⟨_,XL h (mL h1) (mL h2) (mL h3),a⟩
end
end Go.Hb
end
section
namespace Go.Hb
def k3 (P:Program) (N:Fm) (c:Code) (B:Exit→Act→World→Prop) (σ:Nat→Value) (w:World):Prop :=c.wpIn (fe N.r) 0 P B (act N σ) w
def qb (N:Fm) (B:Exit→Act→World→Prop):Exit→(Nat→Value)→World→Prop :=fun e σ w=>B e (act N σ) w
section
variable {P:Program} {N:Fm} {B:Exit→Act→World→Prop} {σ:Nat→Value} {w:World}
theorem cW {x y:Code} (h:k3 P N x (Exit.then (y.wpIn (fe N.r) 0 P B) B) σ w):k3 P N (.seq x y) B σ w:=wpIn_seq h
theorem cB {y:Code} (h:k3 P N y B σ w):qb N (Exit.then (y.wpIn (fe N.r) 0 P B) B) .normal σ w:=h
theorem prt {y:Act→World→Prop} (h:qb N B .ret σ w):qb N (Exit.then y B) .ret σ w:=h
theorem rY (h:qb N B .ret σ w):k3 P N .ret B σ w:=wpIn_ret h
theorem cM {c:Code} (h:dU P N c (qb N B) σ w):k3 P N c B σ w:=by
 unfold dU at h
 refine wpIn_mono h ?_
 intro e a w i
 cases e with
 | panic c=>obtain ⟨σ,rfl,q⟩:=i; exact q σ fun _ _=>rfl
 | outgrown=>exact i.elim
 | _=>obtain ⟨σ,rfl,q⟩:=i; exact q
end
theorem y1 (fn:Func) (args:List Value) (F:List Nat) (hn:o8 args.length fn.ntmps=true):({tmps:=args.toArray++tZ (fn.ntmps - args.toArray.size) undef,defers:= []} :Act)=act ⟨fn.ntmps,[],F,none⟩ (mO args):=by
 have a:args.length≤fn.ntmps:=by simpa using hn
 refine xk aa fun i=> ?_
 rw [pA]
 simp only [mO,da,ou]
 by_cases h1:i < args.length
 · rw [Array.getElem?_append_left (by simpa using h1),if_pos ab]
   simp [h1]
 · rw [Array.getElem?_append_right (by simpa using h1)]
   simp only [ou,Array.getElem?_replicate]
   by_cases h2:i < fn.ntmps
   · rw [if_pos ab,if_pos h2,List.getElem?_eq_none ab]; rfl
   · rw [if_neg ab,if_neg h2]
abbrev Bm (P:Program) (fn:Func) (R:Value→World→Prop):Exit→Act→World→Prop :=bodyPostM iQ 0 P fn (fun e w'=> ∃ v,e= .returned v∧R v w')
theorem uO {P:Program} {f:FuncId} {N:Nat} {fn:Func} {c:Code} {args:List Value} {w:World} {R:Value→World→Prop} (F:List Nat) (q:P.funcs[f]? =some fn) (i:fn.body=some c)
 (a:fn.ntmps=N) (hn:o8 args.length N=true) (h:k3 P ⟨N,[],F,none⟩ c (Bm P fn R) (mO args) w):bp P f args.toArray w R:=by
 subst a
 refine callsIn_wide.1<|callsIn_of_wp_marks (F:=iQ) (n:=0) q i trivial ?_
 rw [y1 fn args F hn]
 exact h
section
variable {P:Program} {n:Nat} {F:List Nat} {σ:Nat→Value} {w:World} {fn:Func} {R:Value→World→Prop}
theorem Jt {e:Exit} (he:e= .ret∨e= .normal) {v:Value} (i:(results fn (act ⟨n,[],F,none⟩ σ).tmps).run P w= .ok v w) (a:R v w):qb ⟨n,[],F,none⟩ (Bm P fn R) e σ w:=by
 rcases he with rfl | rfl <;> exact ⟨v,i,v,rfl,a⟩
theorem Tj {t:Nat} {v:Value} (h:fn.results= #[.tmp t]) (i:ev ⟨n,[],F,none⟩ σ (.tmp t)=v) (a:R v w):qb ⟨n,[],F,none⟩ (Bm P fn R) .ret σ w:=
 Jt (.inl rfl) (by rw [results_tmp h,mQ,i]) a
theorem HD {t u:Nat} {v a:Value} (h:fn.results= #[.tmp t,.tmp u]) (q:ev ⟨n,[],F,none⟩ σ (.tmp t)=v) (hu:ev ⟨n,[],F,none⟩ σ (.tmp u)=a) (i:R (.tuple #[v,a]) w):qb ⟨n,[],F,none⟩ (Bm P fn R) .ret σ w:=
 Jt (.inl rfl) (by rw [results_tmp2 h,mQ,mQ,q,hu]) i
theorem Ju {D:Nat} {v:Value} (a:w.heap[D]? =some (.deferred<|some [])) (q:∀ w',(results fn (act ⟨n,[{target:= .collected D,args:= #[]}],F,none⟩ σ).tmps).run P w'= .ok v w') (i:R v (w.putObj D<|.deferred none)):
 qb ⟨n,[{target:= .collected D,args:= #[]}],F,none⟩ (Bm P fn R) .ret σ w:=
 ⟨M4,.inl ⟨_,_,rfl,run_takeDeferred a,⟨v,q _,v,rfl,i⟩⟩⟩
theorem HC {D t:Nat} {v:Value} (h:fn.results= #[.tmp t]) (q:ev ⟨n,[{target:= .collected D,args:= #[]}],F,none⟩ σ (.tmp t)=v) (a:w.heap[D]? =some (.deferred<|some [])) (i:R v (w.putObj D<|.deferred none)):
 qb ⟨n,[{target:= .collected D,args:= #[]}],F,none⟩ (Bm P fn R) .ret σ w:=
 Ju a (fun w'=>by rw [results_tmp h,mQ,q]) i
theorem HE {D t u:Nat} {v a:Value} (h:fn.results= #[.tmp t,.tmp u]) (A:ev ⟨n,[{target:= .collected D,args:= #[]}],F,none⟩ σ (.tmp t)=v) (hu:ev ⟨n,[{target:= .collected D,args:= #[]}],F,none⟩ σ (.tmp u)=a)
 (i:w.heap[D]? =some (.deferred<|some [])) (q:R (.tuple #[v,a]) (w.putObj D<|.deferred none)):qb ⟨n,[{target:= .collected D,args:= #[]}],F,none⟩ (Bm P fn R) .ret σ w:=
 Ju i (fun w'=>by rw [results_tmp2 h,mQ,mQ,A,hu]) q
end
theorem dI {w:World} {B t size n pp a:Nat} {v:Value} {xs:List Value} {cs:Array Value} {z:Nat×Nat} (h:w.ownsRow B t size v n xs) (hp:w.heap[pp]? =some (.cells cs a z)) (q:t≠a):v.ownBlock≠some pp:=by
 intro hk
 rcases h.2 with ⟨h1,_⟩ | ⟨g,cap,cur,h1,_,i,_⟩
 · rw [h1] at hk; simp [iW] at hk
 · rw [h1] at hk
   simp only [iW,fV] at hk
   subst hk
   rw [i] at hp
   simp only [fV,wo] at hp
   exact q hp.2.1
section
variable {P:Program} {N:Fm} {σ:Nat→Value} {w:World} {dst:Option Nat} {ty:TypeId} {pos :String} {af:Array Edge} {g:Option (Nat×Bool)} {x:Operand} {K:(Nat→Value)→World→Prop}
theorem rB {e:TypeId} {v:Value} (a:ev N σ x=v) (h1:v.oneCell'=true) (k:∀ b w',b=w.heap.size→Nw w w'→w'.heap[b]? =some (.cells [v].toArray e (0,0))→K (iO σ dst<|.pointer<|some ⟨b,0,none⟩) w'):
 dV P N ⟨dst,.box e x,ty,pos,af,g⟩ σ w K:=by
 refine oV (v:=fun b=> .pointer<|some ⟨b,0,none⟩) (ob:= .cells [v].toArray e (0,0)) ?_ k
 have :=qO h1
 simp [execOp,Instr.box,a,this,newVar,newRow]
end
theorem mF (w:World) (k:Nat) (o:Obj):Md (fun j=>j=k) w (w.putObj k o):=
 ⟨rfl,rfl,by simp [Np],fun j _ a=>nB a⟩
def eV (w w':World):Prop := ∀ (k:Nat) (o:Obj),w.heap[k]? =some o→(∀ cur e z,o≠.cells cur e z)→w'.heap[k]? =some o
theorem eV.trans {a b c:World} (h:eV a b) (i:eV b c):eV a c:=fun k o q hn=>i k o (h k o q hn) hn
theorem eV.md {F:Nat→Prop} {w w':World} (hm:Md F w w') (i:∀ k,F k→∃ cur e z,w.heap[k]? =some (.cells cur e z)):eV w w':=fun k o a hn=>by
 rw [hm.cH k (dB.1 a).1 (fun hk=>by obtain ⟨c,e,z,h⟩:=i k hk; rw [a] at h; exact hn _ _ _<|rk h)]; exact a
theorem eV.wk {w w':World} (hm:Wk w w'):eV w w':=eV.md hm fun _ h=>h.elim
theorem pT {w:World} {B e size n:Nat} {v:Value} {xs:List Value} (h:w.ownsRow B e size v n xs):∀ k,v.ownBlock=some k→∃ cur e z,w.heap[k]? =some (.cells cur e z):=by
 intro k hk
 rcases h.2 with ⟨rfl,_⟩ | ⟨g,cap,i,rfl,_,a,_⟩
 · simp [iW] at hk
 · simp only [iW,fV] at hk; subst hk; exact ⟨_,_,_,a⟩
def Og {α:Type} (B:Nat) (a:List α→World→Prop):Prop := ∀ pre W W' (F:Nat→Prop),a pre W→Md F W W'→(∀ k,F k→B≤k∧∀ cur e z,W.heap[k]?≠some (.cells cur e z))→a pre W'
section
variable {F:Nat→Prop} {W W':World} {B:Nat}
theorem zd {b e:Nat} {cs:Array Value} {z:Nat×Nat} (h:W.heap[b]? =some (.cells cs e z)) (hm:Md F W W') (a:∀ k,F k→B≤k∧∀ cur e z,W.heap[k]?≠some (.cells cur e z)):W'.heap[b]? =some (.cells cs e z):=by
 rw [hm.cH b (dB.1 h).1 (fun hk=>(a b hk).2 _ _ _ h)]; exact h
theorem LD {B' e size n:Nat} {v:Value} {xs:List Value} (h:W.ownsRow B' e size v n xs) (hm:Md F W W') (a:∀ k,F k→B≤k∧∀ cur e z,W.heap[k]?≠some (.cells cur e z)):W'.ownsRow B' e size v n xs:=
 dz h hm fun k hk i=>by obtain ⟨c,e,z,h1⟩:=pT h k hk; exact (a k i).2 _ _ _ h1
theorem LF {w:World} (h:Wk w W) (hm:Md F W W') (q:w.heap.size≤B) (a:∀ k,F k→B≤k∧∀ cur e z,W.heap[k]?≠some (.cells cur e z)):Wk w W':=Md.trans' h hm fun k hk i=>by have :=(a k i).1; omega
end
def EN {α:Type} (P:Program) (E:Nat) (G:Array Value) (C:α→Array Value) (xs:List α) (A:World→Prop):Prop :=
 ∀ (l:Nat) (a:List α→World→Prop) (W:World),a [] W→(∀ pre W,a pre W→A W)→(∀ pre i q,a pre i→Wk i q→a pre q)→
   (∀ pre x rest i,xs=pre++x::rest→a pre i→YieldAt iQ 0 P l (C x) i fun e W'=>e= .returned (.bool true)∧a (pre++ [x]) W')→
   Calls P E (#[.func (.yield l) #[] #[]]++G) W fun e W'=>(∃ v,e= .returned v)∧a xs W'
def XD (R:World→Prop):Exit→(Nat→Value)→World→Prop
 | .normal,_,w=>R w
 | _,_,_=>False
theorem ER (N:Fm):∀ (l:List (Tmp×Value)) (σ:Nat→Value),l.foldl (fun t p=>t.setIfInBounds p.1 p.2) (act N σ).tmps=(act N<|l.foldl (fun s p=>dD s p.1 p.2) σ).tmps:=by
 intro l
 induction l with
 | nil=>intro σ; rfl
 | cons p l a=>
   intro σ
   rw [sv,sv,← a]
   congr 1
   have :=congrArg Act.tmps<|jJ N σ (some p.1) p.2
   exact this
theorem KU {α:Type} {P:Program} {id n:Nat} {g:Operand} {ps:Array Tmp} {Y body:Code} {Fx:List Nat} {σ:Nat→Value} {w:World} {B:Exit→Act→World→Prop} {U:Nat} {V:Array Value}
 (J:α→Array Value) (xs:List α) (ai:World→Prop) (i:List α→World→Prop) (aC:ev ⟨n,[],Fx,none⟩ σ g= .func (.func U) #[] V) (az:bo P U) (aJ:∀ x,(J x).size=ps.size)
 (aE:EN P U V J xs ai) (ar:i [] w) (aA:∀ pre W,i pre W→ai W) (Z:Og w.heap.size i) (ao:α→Nat→Value)
 (ax:∀ (l:Nat) (x:α) (W:World) (K:(Nat→Value)→World→Prop),K (ao x) W→dU P ⟨n,[],[],some l⟩ Y (lS K fun _ _ _=>False) ((ps.toList.zip (J x).toList).foldl (fun s p=>dD s p.1 p.2) σ) W)
 (ay:∀ (l:Nat) (pre:List α) (x:α) (rest:List α) (W:World),xs=pre++x::rest→i pre W→dU P ⟨n,[],[],some l⟩ body (XD fun W'=>eV W W'∧i (pre++ [x]) W') (ao x) W)
 (hd:∀ (D:Nat) (W:World),w.heap.size≤D→i xs W→W.heap[D]? =some (.deferred<|some [])→qb ⟨n,[{target:= .collected D,args:= #[]}],Fx,none⟩ B .normal σ W):
 k3 P ⟨n,[],Fx,none⟩ (.block id<|.rangeFunc g ps Y body) B σ w:=by
 refine wpIn_block<|wpIn_rangeFunc ?_
 intro fn _
 obtain ⟨rc,O⟩:∃ rc:LoopState→Option Code→Loop,rc=fun st aM=> {state:=st,pending:=aM,fn,tmps:=(act ⟨n,[],Fx,none⟩ σ).tmps,params:=ps,assign:=Y,body,defers:=w.heap.size} :=⟨_,rfl⟩
 obtain ⟨q,ac⟩:∃ q,(w.alloc<|.deferred<|some []).alloc (.loop<|rc .ready none)=q:=⟨_,rfl⟩
 have aw:q.heap[w.heap.size+1]? =some (.loop<|rc .ready none):=by
  rw [← ac]; have :=zM (w.alloc<|.deferred<|some []) (.loop<|rc .ready none); rwa [Nq] at this
 have av:q.heap[w.heap.size]? =some (.deferred<|some []):=by
  rw [← ac]; exact (Below.heap_alloc _ _ _<|by simp).trans<|zM w _
 have hn:∀ (W:World) (o:Obj),Wk W (W.alloc o):=fun W o=>(CV W o).md
 have au:i [] q:=by rw [← ac]; exact Z _ _ _ _ (Z _ _ _ _ ar (hn _ _) fun _ h=>h.elim) (hn _ _) fun _ h=>h.elim
 have aB:(act ⟨n,[],Fx,none⟩ σ).eval g= .func (.func U) #[] V:=by rw [hU]; exact aC
 refine ⟨w.heap.size+1,[{target:= .collected w.heap.size,args:= #[]}],q,{target:= .fn (.func U) V,args:= #[.func (.yield<|w.heap.size+1) #[] #[]]},q,U,
  #[.func (.yield<|w.heap.size+1) #[] #[]]++V,q,?_,?_,fun _ _=>trivial,?_,fun aq=>(by cases aq),?_⟩
 · rw [← ac,O]; exact run_enterLoop_outer _ _ _ _ _
 · simp only [resolve,aB]
   simp [go_sem]
 · have :=az (#[.func (.yield<|w.heap.size+1) #[] #[]]++V) q
   simp [invoke,go_sem,this]
 · have ag:∀ (pre:List α) (W:World) (o ah:Obj),i pre W→W.heap[w.heap.size+1]? =some o→(∀ cur e z,o≠.cells cur e z)→i pre (W.putObj (w.heap.size+1) ah):=fun pre W o ah h1 h2 h3=>
    Z _ _ _ _ h1 (mF W _ ah) fun k hk=>⟨ab,fun cur e z h4=>by subst hk; rw [h2] at h4; exact h3 _ _ _<|rk h4⟩
   refine callsIn_wide.2 (lE (aE (w.heap.size+1)
    (fun pre W=>i pre W∧W.heap[w.heap.size+1]? =some (.loop<|rc .ready none)∧W.heap[w.heap.size]? =some (.deferred<|some []))
    q ⟨au,aw,av⟩ (fun pre W h=>aA pre W h.1)
    (fun pre A C h hm=>⟨Z _ _ _ _ h.1 hm (fun _ h=>h.elim),(hm.cH _ (dB.1 h.2.1).1 fun h=>h).trans h.2.1,(hm.cH _ (dB.1 h.2.2).1 fun h=>h).trans h.2.2⟩) ?_) ?_)
   · rintro pre x rest W aL ⟨hi,M,hk⟩
     have aI:w.heap.size+1 < W.heap.size:=(dB.1 M).1
     have am:=run_yield (P:=P) (args:=J x) M<|by rw [O]; exact aJ x
     rw [O] at am
     refine ⟨fn,_,Y,body,am,roundIn_of_wpIn (F:=iQ) trivial ?_⟩
     have aK:((ps.zip<|J x).foldl (fun tmps (p:Tmp×Value)=>tmps.setIfInBounds p.1 p.2) (act ⟨n,[],Fx,none⟩ σ).tmps)=(act ⟨n,[],[],some<|w.heap.size+1⟩<|(ps.toList.zip (J x).toList).foldl (fun s p=>dD s p.1 p.2) σ).tmps:=by
      rw [← MK,MO]
      exact ER ⟨n,[],[],some<|w.heap.size+1⟩ _ σ
     have h1:=ax (w.heap.size+1) x W (fun I W'=> ∃ an,(M6<|w.heap.size+1).run P W'= .ok () an∧
      body.wpIn (iQ.inRound<|w.heap.size+1) 0 P (roundPost P (w.heap.size+1) fun e W'=>e= .returned (.bool true)∧i (pre++ [x]) W'∧W'.heap[w.heap.size+1]? =some (.loop<|rc .ready none)∧W'.heap[w.heap.size]? =some (.deferred<|some [])) (act ⟨n,[],[],some<|w.heap.size+1⟩ I) an) ?_
     · unfold dU at h1
       have ap:({tmps:=(ps.zip<|J x).foldl (fun tmps (p:Tmp×Value)=>tmps.setIfInBounds p.1 p.2) (act ⟨n,[],Fx,none⟩ σ).tmps,defers:= []} :Act)=act ⟨n,[],[],some<|w.heap.size+1⟩ ((ps.toList.zip (J x).toList).foldl (fun s p=>dD s p.1 p.2) σ):=by rw [aK]; rfl
       rw [ap]
       refine wpIn_mono h1 ?_
       intro e a w' E
       cases e with
       | normal=>obtain ⟨I,rfl,G⟩:=E; exact G
       | panic c=>obtain ⟨I,rfl,G⟩:=E; exact G I fun _ _=>rfl
       | outgrown=>exact E.elim
       | _=>obtain ⟨I,rfl,G⟩:=E; exact G
     refine ⟨_,run_beginRound M (by rw [O]),?_⟩
     have aH:(W.putObj (w.heap.size+1)<|.loop {rc .ready none with state:= .busy}).heap[w.heap.size+1]? =some (.loop {rc .ready none with state:= .busy}):=zN aI
     have aF:(W.putObj (w.heap.size+1)<|.loop {rc .ready none with state:= .busy}).heap[w.heap.size]? =some (.deferred<|some []):=(nB ab).trans hk
     have h2:=ay (w.heap.size+1) pre x rest _ aL<|ag _ _ _ (.loop {rc .ready none with state:= .busy}) hi M fun _ _ _ h=>by cases h
     unfold dU at h2
     refine wpIn_mono h2 ?_
     intro e a aO E
     cases e with
     | normal=>
       obtain ⟨I,rfl,aj,aD⟩:=E
       have ae:=aj _ _ aH fun _ _ _ h=>by cases h
       have aG:=aj _ _ aF fun _ _ _ h=>by cases h
       have ak:=run_endRound (P:=P) none ae
       rw [O] at ak ae ⊢
       exact ⟨_,_,ak,aa,ag _ _ _ _ aD ae (fun _ _ _ h=>by cases h),zN (dB.1 ae).1,(nB ab).trans aG⟩
     | panic c=>obtain ⟨I,rfl,G⟩:=E; exact (G I fun _ _=>rfl).elim
     | outgrown=>exact E.elim
     | _=>obtain ⟨I,rfl,G⟩:=E; exact G.elim
   · rintro e aN ⟨⟨v,rfl⟩,hi,M,hk⟩
     have al:=run_endLoop (P:=P) M<|by rw [O]; simp
     rw [O] at al
     refine ⟨none,_,al,?_⟩
     rw [O] at M
     exact hd w.heap.size _ (cD _) (ag _ _ _ _ hi M fun _ _ _ h=>by cases h)<|(nB ab).trans hk
section
variable {P:Program} {N:Fm} {ops:Array Oper} {Q:Exit→(Nat→Value)→World→Prop} {rest:List Oper} {σ:Nat→Value} {w:World} {d':Option Nat} {d:Nat} {op:Op} {ty:TypeId} {pos :String} {af:Array Edge} {v:Value}
def oU (P:Program) (N:Fm) (ops:Array Oper) (Q:Exit→(Nat→Value)→World→Prop) (l:List Oper) (σ:Nat→Value) (w:World):Prop :=wpListIn (fe N.r) 0 P ops (lift N Q) l (act N σ) w
theorem Xy {id:Nat} {l:List Oper} (h:oU P N l.toArray Q l σ w):dU P N (.region id l.toArray false) Q σ w:=by
 unfold dU; exact wpIn_region_lit h
theorem Wn (h:Q .normal σ w):oU P N ops Q [] σ w:=⟨σ,rfl,h⟩
def CQ (o:Op):Bool:=match o with | .defer _=>false | _=>true
theorem Wq {o:Op} (h:CQ o=true):∀ c,o≠.defer c:=fun c e=>by subst e; cases h
theorem ey (hn:CQ op=true) (h:dV P N ⟨d',op,ty,pos,af,none⟩ σ w (fun σ w=>oU P N ops Q rest σ w)):oU P N ops Q (⟨d',op,ty,pos,af,none⟩::rest) σ w:=by
 unfold oU wpListIn
 rw [if_pos (jQ _ rfl _)]
 refine ⟨fun f _=>xZ _ f,?_⟩
 rw [BB,Nf _ _ _ (Wq hn)]
 unfold dV j0 at h
 generalize (execOp (act N σ).eval ⟨d',op,ty,pos,af,none⟩).run P w=x at h ⊢
 cases x with
 | ok n w'=>
   cases n <;> simp only [k4,q4] at h ⊢ <;>
    first
     | (obtain ⟨q,i,hk⟩:=h; rw [i]; exact hk)
     | (refine ⟨fun a=>(by rw [uR] at a; cases a),Ed (HH h) fun e w'' he=> ?_⟩
        cases e with
        | returned v=>obtain ⟨q,i,hk⟩:=he; simp only; rw [i]; exact hk
        | panicked c=>exact he.elim
        | outgrown=>obtain ⟨_,_,A⟩:=he; exact A.elim)
     | (refine ⟨fun a=>(by rw [uR] at a; cases a),Et (BC h) fun v w'' he=> ?_⟩
        obtain ⟨q,i,hk⟩:=he; rw [i]; exact hk)
 | halt x w'=>cases x <;> simp only [k4] at h
theorem py (hn:CQ op=true) (h:(execOp (ev N σ) ⟨some d,op,ty,pos,af,none⟩).run P w= .ok (.value v) w) (k:oU P N ops Q rest (dD σ d v) w):oU P N ops Q (⟨some d,op,ty,pos,af,none⟩::rest) σ w:=
 ey hn (oh h k)
theorem ZO {l:Nat} {fo:Operand} {args:Array Operand} {i:Array TypeId} {L:List Value} {R:World→Prop} (G:ev N σ fo= .func (.yield l) #[] #[]) (C:args.toList.map (ev N σ)=L)
 (J:YieldAt iQ 0 P l L.toArray w fun e W'=>e= .returned (.bool true)∧R W') (k:∀ W',R W'→oU P N ops Q rest (dD σ d<|.bool true) W'):
 oU P N ops Q (⟨some d,.call ⟨.value fo,args,i⟩,ty,pos,af,none⟩::rest) σ w:=by
 obtain ⟨fn,tmps,a,b,E,A⟩:=J
 unfold oU wpListIn
 rw [if_pos (jQ _ rfl _)]
 refine ⟨fun f _=>xZ _ f,?_⟩
 rw [BB,Nf _ _ _ (fun c e=>by cases e),hU]
 have hm:args.map (ev N σ)=L.toArray:=by rw [← C,← nz]
 have I:(execOp (ev N σ) ⟨some d,.call ⟨.value fo,args,i⟩,ty,pos,af,none⟩).run P w= .ok (.round l fn tmps a b) w:=by
  simp [execOp,resolve,G,qY,invoke,hm,E]
 rw [I]
 simp only [q4]
 refine ⟨fun q=>(by rw [uR] at q; cases q),?_⟩
 have h1:RoundIn (fe N.r) (0 - 1) P l fn tmps a b w fun e W'=>e= .returned (.bool true)∧R W':=by
  cases hr:N.r with
  | none=>exact A
  | some k=>exact A
 refine Er h1 ?_
 rintro e W' ⟨rfl,hw⟩
 simp only
 rw [jJ]
 exact k W' hw
end
end Go.Hb
end
section
namespace Go.Hb
def fF (P:Program) (f:FuncId) (args:Array Value) (w:World) (R:Value→World→Prop) (Pn:List PanicEntry→World→Prop):Prop :=
 Calls P f args w fun e w'=>(∃ v,e= .returned v∧R v w')∨∃ c,e= .panicked c∧Pn c w'
def HK (P:Program) (fn:Func) (N:Fm) (R:Value→World→Prop) (Pn:List PanicEntry→World→Prop):Exit→(Nat→Value)→World→Prop
 | .normal,σ,w=> ∃ v,(results fn (act N σ).tmps).run P w= .ok v w∧R v w
 | .ret,σ,w=> ∃ v,(results fn (act N σ).tmps).run P w= .ok v w∧R v w
 | .panic c,_,w=>Pn c w
 | _,_,_=>False
theorem jO {P:Program} {fn:Func} {N:Fm} {R:Value→World→Prop} {Pn:List PanicEntry→World→Prop} {e:Exit} {σ:Nat→Value} {w:World} (h:fin P fn N R e σ w):HK P fn N R Pn e σ w:=by
 cases e <;> first | exact h | exact h.elim
theorem ke {P:Program} {f:FuncId} {N:Nat} {fn:Func} {c:Code} {args:List Value} {w:World} {R:Value→World→Prop} {Pn:List PanicEntry→World→Prop} (I:P.funcs[f]? =some fn) (G:fn.body=some c)
 (E:fn.ntmps=N) (hn:o8 args.length N=true) (h:dU P ⟨N,[],[],none⟩ c (HK P fn ⟨N,[],[],none⟩ R Pn) (mO args) w):fF P f args.toArray w R Pn:=by
 subst E
 refine calls_of_wp I G ?_
 rw [y1 fn args [] hn]
 unfold dU at h
 refine MX ?_<|wpIn_wide.1 h
 intro e a w i
 cases e with
 | normal=>obtain ⟨σ,rfl,v,C,A⟩:=i; exact ⟨rfl,v,C,.inl ⟨v,rfl,A⟩⟩
 | ret=>obtain ⟨σ,rfl,v,C,A⟩:=i; exact ⟨rfl,v,C,.inl ⟨v,rfl,A⟩⟩
 | exit id=>obtain ⟨σ,rfl,q⟩:=i; exact q.elim
 | goto l=>obtain ⟨σ,rfl,q⟩:=i; exact q.elim
 | panic c=>obtain ⟨σ,rfl,q⟩:=i; exact ⟨rfl,.inr ⟨c,rfl,q σ fun _ _=>rfl⟩⟩
 | outgrown=>exact i.elim
section
variable {P:Program} {N:Fm} {Q:Exit→(Nat→Value)→World→Prop} {σ:Nat→Value} {w:World} {ops:Array Oper} {rest:List Oper} {dst:Option Nat} {ty:TypeId} {pos :String} {af:Array Edge} {g:Option (Nat×Bool)} {x:Operand}
def oW (P:Program) (N:Fm) (o:Oper) (σ:Nat→Value) (w:World) (K:(Nat→Value)→World→Prop) (Pn:List PanicEntry→World→Prop):Prop :=
 j0 P o (act N σ) w (fun a w=> ∃ σ,a=act N σ∧K σ w) (fun e a w=>match e with | .panic c=>a=act N σ∧Pn c w | _=>False)
theorem zr {o:Oper} {K:(Nat→Value)→World→Prop} {Pn:List PanicEntry→World→Prop} {q:Act→World→Prop} (h:oW P N o σ w K Pn) (hk:∀ σ w,K σ w→q (act N σ) w) (hp:∀ c w',Pn c w'→∀ E,(∀ i∈N.F,E i=σ i)→Q (.panic c) E w'):o.wp P (act N σ) w q (lift N Q):=by
 unfold oW at h
 unfold j0 at*
 generalize (execOp (act N σ).eval o).run P w=r at h ⊢
 have A:∀ a w,(∃ σ,a=act N σ∧K σ w)→q a w:=by rintro a w ⟨σ,rfl,h⟩; exact hk _ _ h
 have C:∀ c (a:Act) w',(a=act N σ∧Pn c w')→lift N Q (.panic c) a w':=by rintro c a w' ⟨rfl,h⟩; exact ⟨σ,rfl,hp c w' h⟩
 cases r with
 | ok n w'=>
   cases n <;> simp only [k4] at h ⊢ <;>
    first
     | exact A _ _ h
     | exact lE h (fun e w'' he=>by
      cases e with
      | returned v=>exact A _ _ he
      | panicked c=>exact C _ _ _ ⟨rfl,he.2⟩
      | outgrown=>obtain ⟨_,_,G⟩:=he; exact G.elim)
     | exact Es h fun _ _ he=>A _ _ he
 | halt x w'=>cases x <;> simp only [k4] at h ⊢ <;> exact C _ _ _ ⟨rfl,h.2⟩
theorem dW {f:FuncId} {args:Array Operand} {a:Array TypeId} {L:List Value} {R:Value→World→Prop} {Pn:List PanicEntry→World→Prop} {K:(Nat→Value)→World→Prop} (C:bo P f) (E:fF P f L.toArray w R Pn) (i:args.toList.map (ev N σ)=L)
 (k:∀ v w',R v w'→K (iO σ dst v) w'):oW P N ⟨dst,.call ⟨.value (.func f),args,a⟩,ty,pos,af,g⟩ σ w K Pn:=by
 unfold oW j0
 have hm:args.map (ev N σ)=L.toArray:=by rw [← i,← nz]
 have G:(execOp (ev N σ) ⟨dst,.call ⟨.value (.func f),args,a⟩,ty,pos,af,g⟩).run P w= .ok (.enter f L.toArray) w:=by
  have h2:=C L.toArray w
  simp [execOp,resolve,ev,qY,invoke,hm,h2]
 rw [hU,G]
 simp only [k4]
 refine lE E ?_
 rintro e w' (⟨v,rfl,A⟩ | ⟨c,rfl,q⟩)
 · exact ⟨_,jJ ..,k v w' A⟩
 · exact ⟨trivial,q⟩
theorem Mv {f:FuncId} {fo:Operand} {first cap:Array Value} {args:Array Operand} {a:Array TypeId} {L:List Value} {R:Value→World→Prop} {Pn:List PanicEntry→World→Prop} {K:(Nat→Value)→World→Prop} (C:bo P f) (G:ev N σ fo= .func (.func f) first cap) (E:fF P f L.toArray w R Pn) (i:first.toList++args.toList.map (ev N σ)++cap.toList=L)
 (k:∀ v w',R v w'→K (iO σ dst v) w'):oW P N ⟨dst,.call ⟨.value fo,args,a⟩,ty,pos,af,g⟩ σ w K Pn:=by
 unfold oW j0
 have hm:first++args.map (ev N σ)++cap=L.toArray:=by rw [← i]; simp
 have I:(execOp (ev N σ) ⟨dst,.call ⟨.value fo,args,a⟩,ty,pos,af,g⟩).run P w= .ok (.enter f L.toArray) w:=by
  have h2:=C L.toArray w
  simp only [execOp,resolve,G,qY,invoke]
  simp [hm,h2]
 rw [hU,I]
 simp only [k4]
 refine lE E ?_
 rintro e w' (⟨v,rfl,A⟩ | ⟨c,rfl,q⟩)
 · exact ⟨_,jJ ..,k v w' A⟩
 · exact ⟨trivial,q⟩
theorem eP {o:Oper} {Pn:List PanicEntry→World→Prop} (q:o.guard=none) (h:oW P N o σ w (fun σ w=>eT P N ops Q rest σ w) Pn) (hp:∀ c w',Pn c w'→∀ a,(∀ i∈N.F,a i=σ i)→Q (.panic c) a w'):eT P N ops Q (o::rest) σ w:=by
 unfold eT wpList
 rw [if_pos (jQ o q _)]
 refine .inl<|zr h (fun σ w hk=> ?_) hp
 unfold eT at hk; exact hk
theorem W7 {t:TypeId} {v:Value} (A:ev N σ x= .iface t v) (hp:∀ a,(∀ i∈N.F,a i=σ i)→Q (.panic [{v:= .iface t v,recovered:=false}]) a w):eT P N ops Q (⟨dst,.panic x,ty,pos,af,none⟩::rest) σ w:=by
 unfold eT wpList
 rw [if_pos (jQ _ rfl _)]
 refine .inl ?_
 unfold j0
 have q:(execOp (ev N σ) ⟨dst,.panic x,ty,pos,af,none⟩).run P w= .halt (.panic<|.iface t v) w:=by
  simp [execOp,A,Instr.panic]
 rw [hU,q]
 exact ⟨σ,aa,hp⟩
theorem Wb {t:TypeId} {d:TypeDesc} {v:Value} (hu:P.underlying t=some d) (hd:(match d with | .interface _=>false | _=>true)=true) (a:ev N σ x=v):(execOp (ev N σ) ⟨dst,.makeInterface t x,ty,pos,af,g⟩).run P w= .ok (.value<|.iface t v) w:=by
 cases d <;> first | (cases hd; done) | simp [execOp,Instr.makeInterface,a,eA hu]
def rS (P:Program) (t:TypeId):Bool:=match P.underlying t with | some (.interface _)=>false | some _=>true | none=>false
theorem Wc {t:TypeId} {v:Value} (h:rS P t=true) (a:ev N σ x=v):(execOp (ev N σ) ⟨dst,.makeInterface t x,ty,pos,af,g⟩).run P w= .ok (.value<|.iface t v) w:=by
 unfold rS at h
 cases hd:P.underlying t with
 | none=>rw [hd] at h; cases h
 | some d=>rw [hd] at h; exact Wb hd (by cases d <;> first | rfl | cases h) a
theorem YO {xt a:TypeId} {zv:Value} (hu:rS P a=true) (q:zeroV P a=some zv) (i:ev N σ x= .nilIface):(execOp (ev N σ) ⟨dst,.typeAssert x xt a true,ty,pos,af,g⟩).run P w= .ok (.value<|.tuple #[zv,.bool false]) w:=by
 unfold rS at hu
 cases hd:P.underlying a with
 | none=>rw [hd] at hu; cases hu
 | some d=>rw [hd] at hu; cases d <;> first | (cases hu; done) | simp [execOp,Nb,i,eA hd,zu q]
theorem YN {xt a:TypeId} {v:Value} (hu:rS P a=true) (i:ev N σ x= .iface a v):(execOp (ev N σ) ⟨dst,.typeAssert x xt a true,ty,pos,af,g⟩).run P w= .ok (.value<|.tuple #[v,.bool true]) w:=by
 unfold rS at hu
 cases hd:P.underlying a with
 | none=>rw [hd] at hu; cases hu
 | some d=>rw [hd] at hu; cases d <;> first | (cases hu; done) | simp [execOp,Nb,i,eA hd]
variable {S:World→Prop} {fuel:Nat} {bg:Array Bool}
theorem tx {o:Oper} {Pn:List PanicEntry→World→Prop} (i:Nat) (hi:ops[i]? =some o) (A:lz ops bg i=true) (q:o.guard=none)
 (h:oW P N o σ w (fun σ w=>S w∧fL P N ops Q S fuel (bg.setIfInBounds i true) σ w) Pn) (hp:∀ c w',Pn c w'→∀ a,(∀ i∈N.F,a i=σ i)→Q (.panic c) a w'):fL P N ops Q S (fuel+1) bg σ w:=by
 unfold fL at*
 refine wpAnyH_all (rs:= [i]) (by simpa [lz] using A) (by simp) ?_
 intro k hk
 obtain rfl :k=i:=by simpa using hk
 unfold wpOp
 simp only [hi]
 rw [if_pos (jQ _ q _)]
 exact .inl<|zr h (fun σ w hk=>hk) hp
end
section
variable {P:Program} {N:Fm} {Q:Exit→(Nat→Value)→World→Prop} {σ:Nat→Value} {w:World} {ops:Array Oper} {S:World→Prop} {fuel:Nat} {bg:Array Bool}
theorem UO {o a:Oper} {Pn:List PanicEntry→World→Prop} (i j:Nat) (hi:ops[i]? =some o) (E:ops[j]? =some a) (G:((js .any ops bg)== [i,j])=true) (A:o.guard=none) (C:a.guard=none)
 (h:oW P N o σ w (fun σ w=>S w∧fL P N ops Q S fuel (bg.setIfInBounds i true) σ w) Pn) (hp:∀ c w',Pn c w'→∀ q,(∀ i∈N.F,q i=σ i)→Q (.panic c) q w')
 (h1:dV P N a σ w (fun σ w=>S w∧fL P N ops Q S fuel (bg.setIfInBounds j true) σ w)):fL P N ops Q S (fuel+1) bg σ w:=by
 unfold fL at*
 refine wpAnyH_all (rs:= [i,j]) (by simpa using G) (by simp) ?_
 intro k hk
 simp only [e7,uu,or_false] at hk
 rcases hk with rfl | rfl
 · unfold wpOp
   simp only [hi]
   rw [if_pos (jQ _ A _)]
   exact .inl<|zr h (fun _ _ hk=>hk) hp
 · unfold wpOp
   simp only [E]
   rw [if_pos (jQ _ C _)]
   exact .inl<|tT h1 fun _ _ hk=>hk
end
section
variable {P:Program} {N:Fm} {Q:Exit→(Nat→Value)→World→Prop} {σ:Nat→Value} {w:World} {ops:Array Oper} {S:World→Prop} {fuel r:Nat} {bg:Array Bool}
theorem Jw {o:Oper} {Pn:List PanicEntry→World→Prop} (i:Nat) (hi:ops[i]? =some o) (E:lz ops bg i=true) (C:o.guard=none)
 (h:oW P N o σ w (fun σ w=>S w∧iP P N ops Q S r fuel (bg.setIfInBounds i true) σ w) Pn) (hp:∀ c w',Pn c w'→∀ q,(∀ i∈N.F,q i=σ i)→Q (.panic c) q w'):iP P N ops Q S r (fuel+1) bg σ w:=by
 unfold iP at*
 have a:js .any ops bg= [i]:=by simpa [lz] using E
 refine ⟨fun A=>absurd (a ▸ A) (by simp),fun k hk=> ?_⟩
 rw [a] at hk
 obtain rfl :k=i:=by simpa using hk
 unfold wpOp
 simp only [hi]
 rw [if_pos (jQ _ C _)]
 exact .inl<|zr h (fun σ w hk=>⟨fun _=>hk.1,hk.2⟩) hp
end
abbrev qf (P:Program) (fn:Func) (R:Value→World→Prop):Exit→Act→World→Prop :=bodyPostD P fn (fun e w'=> ∃ v,e= .returned v∧R v w')
theorem SX {P:Program} {f:FuncId} {N:Nat} {fn:Func} {c:Code} {args:List Value} {w:World} {R:Value→World→Prop} (F:List Nat) (q:P.funcs[f]? =some fn) (i:fn.body=some c)
 (a:fn.ntmps=N) (hn:o8 args.length N=true) (h:k3 P ⟨N,[],F,none⟩ c (qf P fn R) (mO args) w):bp P f args.toArray w R:=by
 subst a
 refine calls_of_wp_defers q i ?_
 rw [y1 fn args F hn]
 exact wpIn_wide.1 h
section
variable {P:Program} {n:Nat} {D:List Deferred} {F:List Nat} {σ:Nat→Value} {w:World} {fn:Func} {R:Value→World→Prop} {B:Exit→Act→World→Prop}
theorem Tl {v:Value} (i:(results fn (act ⟨n,[],F,none⟩ σ).tmps).run P w= .ok v w) (a:R v w):qb ⟨n,[],F,none⟩ (qf P fn R) .ret σ w:=⟨v,i,v,rfl,a⟩
theorem VJ:¬LetsOut (qf P fn R):=fun ⟨_,_,h⟩=>by obtain ⟨v,h,_⟩:=h; cases h
theorem SA {id d:Nat} {f:FuncId} (J:¬LetsOut B) {cs:Array Operand} {G I:TypeId} {C E:String} {q A:Array Edge} {y:Code} (i:Array Value) (O:cs.toList.map (ev ⟨n,[],F,none⟩ σ)=i.toList) (hd:d < n)
 (h:k3 P ⟨n,[{target:= .fn (.func f) i,args:= #[]}],F,none⟩ y B (dD σ d<|.func (.func f) #[] i) w):
 k3 P ⟨n,[],F,none⟩ (.region id #[⟨some d,.makeFunc (.func f) #[] cs,G,C,q,none⟩,⟨none,.defer ⟨.value (.tmp d),#[],#[]⟩,I,E,A,none⟩] false) (Exit.then (y.wpIn (fe none) 0 P B) B) σ w:=by
 have U:cs.map (ev ⟨n,[],F,none⟩ σ)=i:=zz.1<|by rw [nz]; exact O
 refine wpIn_region ?_
 have M:¬LetsOut (Exit.then (y.wpIn (fe none) 0 P B) B):=fun ⟨a,w,h⟩=>J ⟨a,w,h⟩
 refine Cu (r:=none) M aa _ _ _ ?_
 show wpOps P _ _ [0,1] _ _
 simp only [wpOps,NH,uj,List.getElem?_cons_succ]
 rw [if_pos (jQ _ rfl _)]
 refine .inl ?_
 unfold j0
 have h1:(execOp (act ⟨n,[],F,none⟩ σ).eval ⟨some d,.makeFunc (.func f) #[] cs,G,C,q,none⟩).run P w= .ok (.value<|.func (.func f) #[] i) w:=by
  rw [hU,mf,U]; simp
 rw [h1]
 simp only [k4]
 rw [if_pos (jQ _ rfl _),jJ]
 refine .inl ?_
 have h2:(execOp (act ⟨n,[],F,none⟩<|iO σ (some d)<|.func (.func f) #[] i).eval ⟨none,.defer ⟨.value (.tmp d),#[],#[]⟩,I,E,A,none⟩).run P w= .ok (.defer {target:= .fn (.func f) i,args:= #[]}) w:=by
  have V:ev ⟨n,[],F,none⟩ (dD σ d<|.func (.func f) #[] i) (.tmp d)= .func (.func f) #[] i:=by
   show cond (gG d n) (dD σ d _ d) undef=_
   rw [show gG d n=true from by simpa using hd]
   show dD σ d _ d=_
   unfold dD; simp
  rw [hU]
  show (execOp (ev ⟨n,[],F,none⟩<|dD σ d<|.func (.func f) #[] i) _).run P w=_
  simp [execOp,resolve,V,qY]
 rw [h2]
 exact h
end
theorem WG {P:Program} {ops:Array Oper} {Q:Exit→Act→List Frame→World→Prop} {cs:List Frame} (A:¬LetsOut fun e a w=>Q e a cs w):∀ (l:List Nat) (a:Act) (w:World),wpOps P ops (fun e a w=>Q e a cs w) l a w→wpOpsS P ops Q l a cs w:=by
 intro l
 induction l with
 | nil=>exact fun _ _ h=>h
 | cons i l q=>
   intro a w h
   simp only [wpOps] at h
   simp only [wpOpsS]
   cases ho:ops[i]? with
   | none=>simp only [ho] at h ⊢; exact q a w h
   | some o=>
     simp only [ho] at h ⊢
     by_cases hw:Region.wanted o (yielded ops a.tmps)=true
     · rw [if_pos hw] at h ⊢
       rcases h with h | h
       · unfold j0 at h
         generalize (execOp a.eval o).run P w=x at h
         cases x with
         | ok n w'=>
           cases n <;> simp only [k4] at h ⊢ <;>
            first
             | exact q _ _ h
             | exact lE h fun e w'' he=>by cases e <;> first | exact q _ _ he | exact he
             | exact Es h fun v w'' he=>q _ _ he
         | halt x w'=>cases x <;> simp only [k4] at h ⊢ <;> exact h
       · exact absurd h.2 A
     · rw [if_neg hw] at h ⊢
       exact q _ _ h
theorem VN {P:Program} {ops:Array Oper} {Q A:Exit→Act→World→Prop} (q:∀ e a w,Q e a w→A e a w) (C:¬LetsOut Q):∀ (l:List Oper) (a:Act) (w:World),wpList P ops Q l a w→wpList P ops A l a w:=by
 intro l
 induction l with
 | nil=>exact fun _ _ h=>q _ _ _ h
 | cons o l i=>
   intro a w h
   unfold wpList at h ⊢
   split at h
   · rename_i hw
     rw [if_pos hw]
     rcases h with h | h
     · left
       unfold j0 at h ⊢
       generalize (execOp a.eval o).run P w=x at h
       cases x with
       | ok n w'=>
         cases n <;> simp only [k4] at h ⊢ <;>
          first
           | exact i _ _ h
           | exact lE h (fun e w'' he=>by
            cases e with
            | returned v=>exact i _ _ he
            | panicked c=>exact q _ _ _ he
            | outgrown=>exact absurd he C)
           | exact Es h fun v w'' he=>i _ _ he
       | halt x w'=>cases x <;> simp only [k4] at h ⊢ <;> exact q _ _ _ h
     · exact absurd h.2 C
   · rename_i hw
     rw [if_neg hw]; exact i _ _ h
theorem Gz {P:Program} {f:FuncId} {fn:Func} {id N d:Nat} {ty:TypeId} {pos :String} {af:Array Edge} {rest:List Oper} {y:Code} {args:List Value} {w:World} {u E:FrameMode} {v:Value} {R:World→Prop}
 (ac:P.funcs[f]? =some fn) (aa:fn.body=some (.seq (.region id (⟨some d,.call ⟨.builtin .recover,#[],#[]⟩,ty,pos,af,none⟩::rest).toArray false) y)) (Z:fn.ntmps=N) (hn:o8 args.length N=true)
 (ae:∀ (A:Frame) (cs:List Frame),A.mode=u→(recoverD (A::cs)=some (v,{A with mode:=E} ::cs))∨(recoverD (A::cs)=none∧v= .nilIface∧E=u))
 (h:eT P ⟨N,[],[],none⟩ (⟨some d,.call ⟨.builtin .recover,#[],#[]⟩,ty,pos,af,none⟩::rest).toArray (lS (fun σ w=>dU P ⟨N,[],[],none⟩ y (fin P fn ⟨N,[],[],none⟩ fun _ w=>R w) σ w)<|fin P fn ⟨N,[],[],none⟩ fun _ w=>R w) rest (dD (mO args) d v) w):
 CallsD P f args.toArray u w fun e G w'=> ∃ v,e= .returned v∧G=E∧R w':=by
 subst Z
 refine callsD_of_wpS ac aa ?_
 intro A cs hu
 rw [y1 fn args [] hn]
 refine wpS_seq<|wpS_region ?_
 have ag:j6 (⟨some d,.call ⟨.builtin .recover,#[],#[]⟩,ty,pos,af,none⟩::rest).toArray.size=0::(List.range' 1 rest.length):=by
  rw [ou,c7,List.range_eq_range',List.range'_succ]
 rw [ag]
 simp only [wpOpsS,NH,uj]
 rw [if_pos (jQ _ rfl _)]
 have ah:(execOp (act ⟨fn.ntmps,[],[],none⟩<|mO args).eval ⟨some d,.call ⟨.builtin .recover,#[],#[]⟩,ty,pos,af,none⟩).run P w= .ok .recover w:=by
  rw [hU]
  simp [execOp,resolve,invoke,builtin]
 rw [ah]
 simp only
 obtain ⟨I,J⟩:∃ I,I=({A with mode:=E} ::cs:List Frame):=⟨_,rfl⟩
 have ab:∀ X:Act→List Frame→Prop,X ((act ⟨fn.ntmps,[],[],none⟩<|mO args).put (some d) v) I→
  (match recoverD (A::cs) with
   | some (v,M)=>X ((act ⟨fn.ntmps,[],[],none⟩<|mO args).put (some d) v) M
   | none=>X ((act ⟨fn.ntmps,[],[],none⟩<|mO args).put (some d) .nilIface) (A::cs)):=by
  intro X V
  rcases ae A cs hu with h1 | ⟨h1,h2,h3⟩
  rw [h1]; subst J; exact V
  rw [h1]; subst h2 h3
  have :({A with mode:=E} :Frame)=A:=by subst hu; rfl
  rw [this] at J; subst J; exact V
 refine ab (fun a M=>wpOpsS P _ _ _ a M w) ?_
 rw [jJ]
 refine WG ?_ _ _ _ ?_
 rintro ⟨a,w,h⟩
 simp only [Exit.thenS,bodyPostS] at h
 obtain ⟨_,_,h,_⟩:=h; cases h
 have h1:=wpOps_eq_wpList (P:=P) (ops:=(⟨some d,.call ⟨.builtin .recover,#[],#[]⟩,ty,pos,af,none⟩::rest).toArray) (Q:=fun e a w'=>Exit.thenS (Code.wpS P y (bodyPostS P fn A cs fun e G w'=> ∃ v,e= .returned v∧G=E∧R w')) (bodyPostS P fn A cs fun e G w'=> ∃ v,e= .returned v∧G=E∧R w') e a I w') rest 1 fun j=>by simp [Nat.add_comm]
 rw [h1]
 unfold eT at h
 refine VN ?_ CE _ _ _ h
 intro e a w' C
 have Y:∀ (e:Exit) (σ:Nat→Value) (w':World),fin P fn ⟨fn.ntmps,[],[],none⟩ (fun _ w=>R w) e σ w'→bodyPostS P fn A cs (fun e G w'=> ∃ v,e= .returned v∧G=E∧R w') e (act ⟨fn.ntmps,[],[],none⟩ σ) I w':=by
  intro e σ w' q
  cases e with
  | normal=>obtain ⟨v,U,O⟩:=q; exact ⟨rfl,E,J,v,U,v,rfl,rfl,O⟩
  | ret=>obtain ⟨v,U,O⟩:=q; exact ⟨rfl,E,J,v,U,v,rfl,rfl,O⟩
  | _=>exact q.elim
 cases e with
 | normal=>
   obtain ⟨σ,rfl,q⟩:=C
   refine wpS_of_wp ?_
   simp only [lS] at q
   unfold dU at q
   refine MX ?_<|wpIn_wide.1 q
   intro e a w' C
   cases e with
   | panic c=>obtain ⟨σ,rfl,q⟩:=C; exact (q σ fun _ _=>rfl).elim
   | outgrown=>exact C.elim
   | _=>obtain ⟨σ,rfl,q⟩:=C; exact Y _ σ w' q
 | panic c=>obtain ⟨σ,rfl,q⟩:=C; exact (q σ fun _ _=>rfl).elim
 | outgrown=>exact C.elim
 | ret=>obtain ⟨σ,rfl,q⟩:=C; exact Y .ret σ w' q
 | exit i=>obtain ⟨σ,rfl,q⟩:=C; exact q.elim
 | goto i=>obtain ⟨σ,rfl,q⟩:=C; exact q.elim
section
variable {P:Program} {n:Nat} {F:List Nat} {σ:Nat→Value} {w:World} {fn:Func} {R:Value→World→Prop}
theorem To {g:FuncId} {a:Array Value} {M:World→Prop} (hu:(invoke (.fn (.func g) a) #[]).run P w= .ok (.enter g a) w)
 (q:CallsD P g a .returning w fun e A w'=> ∃ v,e= .returned v∧A= .returning∧M w') (i:∀ w',M w'→∃ v,(results fn (act ⟨n,[{target:= .fn (.func g) a,args:= #[]}],F,none⟩ σ).tmps).run P w'= .ok v w'∧R v w'):
 qb ⟨n,[{target:= .fn (.func g) a,args:= #[]}],F,none⟩ (qf P fn R) .ret σ w:=by
 refine leaves_cons (by simp) hu ?_
 refine MW q ?_
 rintro e C w' ⟨v,rfl,rfl,hm⟩
 obtain ⟨v2,h1,h2⟩:=i w' hm
 exact ⟨v2,h1,v2,aa,h2⟩
theorem Tp {g:FuncId} {a:Array Value} {M:World→Prop} {v:Value} (hu:(invoke (.fn (.func g) a) #[]).run P w= .ok (.enter g a) w)
 (q:CallsD P g a (.panicking [{v:=v,recovered:=false}]) w fun e A w'=> ∃ x,e= .returned x∧A= .panicking [{v:=v,recovered:=true}]∧M w') (i:∀ w',M w'→∃ v,(results fn (act ⟨n,[{target:= .fn (.func g) a,args:= #[]}],F,none⟩ σ).tmps).run P w'= .ok v w'∧R v w'):
 qb ⟨n,[{target:= .fn (.func g) a,args:= #[]}],F,none⟩ (qf P fn R) (.panic [{v:=v,recovered:=false}]) σ w:=by
 refine leaves_cons (by simp) hu ?_
 refine MW q ?_
 rintro e C w' ⟨x,rfl,rfl,hm⟩
 obtain ⟨v2,h1,h2⟩:=i w' hm
 exact ⟨v2,h1,v2,aa,h2⟩
end
end Go.Hb
end
section
namespace Go.Hb
def mu (w:World) (B e n:Nat) (v:Value) (xs:List Value):Prop :=
 ∃ a cp,v= .slice a n cp∧n≤cp∧(xs= []∨∃ b o cur z,a=some ⟨b,o,none⟩∧B≤b∧w.heap[b]? =some (.cells cur e z)∧∀ (j:Nat) u,xs[j]? =some u→cur[o+j]? =some u)
theorem Tg.YZ {w:World} {B e n:Nat} {v:Value} {xs:List Value} (h:Tg w B e n v xs):mu w B e n v xs:=by
 obtain ⟨a,cp,rfl,C,i⟩:=h
 refine ⟨a,cp,aa,C,i.imp id ?_⟩
 rintro ⟨b,cur,z,q,A,E,i⟩
 exact ⟨b,0,cur,z,q,A,E,fun j u hu=>by rw [Nat.zero_add]; exact i j u hu⟩
theorem mu.cells {w:World} {B e n cp:Nat} {a:Option Addr} {xs:List Value} (h:mu w B e n (.slice a n cp) xs):n≤cp∧aO w.heap a xs:=by
 obtain ⟨E,G,C,q,i⟩:=h
 cases C
 rcases i with h | ⟨b,o,cur,z,rfl,_,A,i⟩
 · subst h; exact ⟨q,aO.nil _ _⟩
 · refine ⟨q,fun _=>rfl,fun j u hu=> ?_⟩
   show Hb.aR w.heap b (o+j)=_
   rw [a7 A]; exact i j u hu
theorem mu.slice {w:World} {B e n:Nat} {v:Value} {xs:List Value} (h:mu w B e n v xs):∃ a cp,v= .slice a n cp:=let ⟨a,cp,hv,_⟩:=h; ⟨a,cp,hv⟩
theorem mu.md {F:Nat→Prop} {w w':World} {B e n:Nat} {v:Value} {xs:List Value} (h:mu w B e n v xs) (hm:Md F w w') (A:∀ k,F k→∀ cur z,w.heap[k]?≠some (.cells cur e z)):mu w' B e n v xs:=by
 obtain ⟨a,cp,rfl,q,h | ⟨b,o,cur,z,rfl,C,i,E⟩⟩:=h
 · exact ⟨a,cp,aa,q,.inl h⟩
 · exact ⟨_,cp,aa,q,.inr ⟨b,o,cur,z,aa,C,by rw [hm.cH b (dB.1 i).1 (fun hk=>A b hk cur z i)]; exact i,E⟩⟩
theorem mu.pH {w:World} {B e n m cp:Nat} {a:Option Addr} {xs:List Value} (h:mu w B e (n+1) (.slice a (n+1) cp) xs) (E:xs.length=(n+1)*m):mu w B e n (.slice (gv a cp 1 m) n<|cp - 1) (xs.drop m):=by
 obtain ⟨I,J,C,M,A⟩:=h
 cases C
 refine ⟨_,_,aa,ab,?_⟩
 rcases A with rfl | ⟨b,o,cur,z,rfl,i,q,G⟩
 · exact .inl<|by simp
 · unfold gv
   by_cases h1:cp=1
   · refine .inl<|fY ?_
     obtain rfl :n=0:=ab
     rw [fT,E]; omega
   · rw [if_neg h1]
     refine .inr ⟨b,o+1 *m,cur,z,?_,i,q,fun j u hu=> ?_⟩
     · rw [mo,mx]
     · rw [List.getElem?_drop] at hu
       have :=G _ u hu
       rw [show o+1 *m+j=o+(m+j) from by omega]; exact this
def eB (w:World) (B e:Nat) (vs:List Value) (a:List (List Nat)):Prop :=vs.length=a.length∧∀ (i:Nat) v l,vs[i]? =some v→a[i]? =some l→Tg w B e l.length v (l.map bj)
theorem eB.nil (w:World) (B e:Nat):eB w B e [] []:=⟨rfl,fun i v l a=>by simp at a⟩
theorem eB.md {F:Nat→Prop} {w w':World} {B e:Nat} {vs:List Value} {a:List (List Nat)} (h:eB w B e vs a) (hm:Md F w w') (q:∀ k,F k→∀ cur z,w.heap[k]?≠some (.cells cur e z)):eB w' B e vs a:=⟨h.1,fun i v l h1 h2=>(h.2 i v l h1 h2).md hm q⟩
theorem eB.wk {w w':World} {B e:Nat} {vs:List Value} {a:List (List Nat)} (h:eB w B e vs a) (hm:Wk w w'):eB w' B e vs a:=h.md hm fun _ hk=>hk.elim
theorem eB.mono {w:World} {B B' e:Nat} {vs:List Value} {a:List (List Nat)} (h:eB w B e vs a) (q:B'≤B):eB w B' e vs a:=⟨h.1,fun i v l h1 h2=>(h.2 i v l h1 h2).mono q⟩
theorem eB.snoc {w:World} {B e:Nat} {vs:List Value} {q:List (List Nat)} {v:Value} {l:List Nat} (a:eB w B e vs q) (C:Tg w B e l.length v (l.map bj)):eB w B e (vs++ [v]) (q++ [l]):=by
 refine ⟨by rw [bM,bM,a.1]; rfl,fun i E G h1 h2=> ?_⟩
 have A:=a.1
 by_cases hi:i < vs.length
 · rw [mm hi] at h1
   rw [mm ab] at h2
   exact a.2 i E G h1 h2
 · rw [mV ab] at h1
   rw [mV ab,← A] at h2
   cases hj:i - vs.length with
   | zero=>rw [hj] at h1 h2; cases h1; cases h2; exact C
   | succ j=>rw [hj] at h1; simp at h1
def jn (t ln:Nat) (e:Int):List PanicEntry:= [{v:= .iface t (.agg [.int .i64 1,.int .i64 (ln:Nat),.int .i64 e].toArray),recovered:=false}]
theorem eH {h:World} {b:Nat} {isK:Value→Prop} {f:Value→Option Value} (hm:dy h.heap b isK f):tag h b=1:=let ⟨_,h1,_⟩:=hm; YP h1
def Wr (L:List Nat) (ms mt mc B:Nat) (w:World) (k:Nat):Prop :=B≤k∧(k=ms∨k=mt∨k=mc∨L.contains (tag w k)=true)
abbrev Mw (L:List Nat) (ms mt mc B:Nat) (w w':World):Prop :=Md (Wr L ms mt mc B w) w w'
section
variable {L:List Nat} {ms mt mc B:Nat} {w w' w'':World}
theorem Mw.trans (h:Mw L ms mt mc B w w') (a:Mw L ms mt mc B w' w''):Mw L ms mt mc B w w'':=by
 refine Md.trans' h a fun k hk hw=> ?_
 refine Classical.byContradiction fun hn=> ?_
 have :=Md.tag h hk hn
 unfold Wr at hw
 rw [this] at hw
 exact hn hw
theorem Wk.mw (h:Wk w w'):Mw L ms mt mc B w w':=h.mono fun _ _ a=>a.elim
theorem Mw.of {F:Nat→Prop} (h:Md F w w') (q:TF w L F) (i:∀ k,F k→B≤k):Mw L ms mt mc B w w':=h.mono fun k _ a=>⟨i k a,.inr<|.inr<|.inr<|q k a⟩
theorem Mw.wk {a:World} (i:Wk a w) (h:Mw L ms mt mc B w w') (q:a.heap.size≤B):Wk a w':=Md.trans' i h fun k hk hw=>by have :=hw.1; omega
theorem Wr.ne (hs:tag w ms=1) (C:tag w mt=1) (A:tag w mc=1) {e:Nat} (q:L.contains (e+2)=false):∀ k,Wr L ms mt mc B w k→∀ cur z,w.heap[k]?≠some (.cells cur e z):=by
 rintro k ⟨_,rfl | rfl | rfl | h⟩ cur z i <;> have a:=dA i
 · omega
 · omega
 · omega
 · rw [a,q] at h; cases h
end
end Go.Hb
end
section
namespace Go.Hb
section
variable {P:Program} {N:Fm} {σ:Nat→Value} {w:World} {dst:Option Nat} {ty:TypeId} {pos :String} {af:Array Edge} {g:Option (Nat×Bool)} {x y:Operand}
theorem Tb (d:Nat) {t e:TypeId} {a:Option Addr} {n c:Nat} (hu:P.underlying t=some (.slice e)):(o4 (d+1) t (.slice a n c)<|.slice none 0 0).run P w= .ok a.isNone w:=by
 cases a <;> simp [o4,eA hu]
theorem Tc {t e:TypeId} {a:Option Addr} {n c:Nat} (hu:P.underlying t=some (.slice e)):(Op.equal t (.slice a n c)<|.slice none 0 0).run P w= .ok a.isNone w:=Tb 9999 hu
theorem s9 {t A e:TypeId} {a:Option Addr} {n c:Nat} (hu:P.underlying t=some (.slice e)) (i:ev N σ x= .slice a n c) (q:ev N σ y= .slice none 0 0):
 (execOp (ev N σ) ⟨dst,.binOp .eql t x y A,ty,pos,af,g⟩).run P w= .ok (.value<|.bool a.isNone) w:=by
 have h:(binOp .eql t (.slice a n c)<|.slice none 0 0).run P w= .ok (.bool a.isNone) w:=by
  simp only [binOp]; simp [Tc hu]
 simp [execOp,i,q,eqGuard,h]
end
def Rd (h:Array Obj) (v:Value) (n size:Nat) (xs:List Value):Prop := ∃ a c,v= .slice a n c∧aO h a xs∧xs.length=n*size∧(a=none→n=0)
theorem Rd.jP {w:World} {B e size n:Nat} {v:Value} {xs:List Value} (h:w.ownsRow B e size v n xs):Rd w.heap v n size xs:=by
 obtain ⟨a,c,rfl,h1,_,_,h3⟩:=tD h
 refine ⟨a,c,aa,h1,h.1,fun i=> ?_⟩
 subst i
 rcases h.2 with ⟨h4,h5⟩ | ⟨g,cap,cur,h4,_⟩
 · exact h5
 · simp at h4
theorem Kt {w:World} {B e size n k cp:Nat} {a:Option Addr} {xs:List Value} (h:w.ownsRow B e size (.slice a n cp) n xs) (hk:k≤n) (C:a≠none):w.ownsRow B e size (.slice a k cp) k (xs.take<|k*size):=by
 obtain ⟨i,h⟩:=h
 refine ⟨by rw [dQ,i]; exact pc (sA _ hk),?_⟩
 rcases h with ⟨h1,_⟩ | ⟨g,cap,cur,h1,h2,h3,h4,h5,q,A⟩
 · simp only [mT] at h1; exact absurd h1.1 C
 · simp only [mT,true_and] at h1
   obtain ⟨rfl,rfl⟩:=h1
   refine .inr ⟨g,_,cur,aa,h2,h3,ab,h5,q,?_⟩
   rw [← A,NU,pc (sA _ hk)]
section
variable {P:Program} {N:Fm} {σ:Nat→Value} {w:World} {dst:Option Nat} {ty:TypeId} {pos :String} {af:Array Edge} {g:Option (Nat×Bool)} {x y z u:Operand} {K:(Nat→Value)→World→Prop}
theorem Yi {t n len cap:Nat} {a:Option Addr} {k k' G:IntKind} {i j m:Nat} (he:gA P t=some n) (A:ev N σ x= .slice a len cap) (C:ev N σ y= .int k (i:Nat)) (E:ev N σ z= .int k' (j:Nat)) (hu:ev N σ u= .int G (m:Nat)) (h:i≤j∧j≤m∧m≤cap):
 (execOp (ev N σ) ⟨dst,.slice t x (some y) (some z) (some u),ty,pos,af,g⟩).run P w= .ok (.value<|.slice (gv a m i n) (j - i)<|m - i) w:=by
 have h1:(0:Int)≤(i:Int):=ab
 have h2:(0:Int)≤(j:Int):=ab
 have h3:(0:Int)≤(m:Int):=ab
 unfold gA at he
 cases hd:P.underlying t with
 | none=>rw [hd] at he; cases he
 | some d=>
   rw [hd] at he
   cases d <;> first | (cases he; done) | skip
   rename_i e
   cases hi':P.info? e with
   | none=>simp [hi'] at he
   | some q=>
     simp only [hi',mo,fV] at he
     subst he
     simp only [execOp,si,Instr.slice,A,C,E,hu,mo,o0,Instr.sliceBound,asIntOf]
     simp [eA hd,jh hi',sizeOf,h.1,h.2.1,h.2.2,gv]
theorem OH {t e size bytes B n m cp c A:Nat} {xs news:List Value} {a:Option Addr} (Y:gi P t e size bytes=true) (M:w.ownsRow B e size (.slice (some ⟨A,0,none⟩) n cp) n xs) (Z:ev N σ x= .slice (some ⟨A,0,none⟩) n cp)
 (aa:ev N σ y= .slice a m c) (G:aO w.heap a news) (I:a≠none) (J:news.length=m*size) (h1:news.all Value.oneCell'=true) (V:n+m≤cp)
 (k:∀ w',Md (fun q=>q=A) w w'→w'.ownsRow B e size (.slice (some ⟨A,0,none⟩) (n+m) cp) (n+m) (xs++news)→K (iO σ dst<|.slice (some ⟨A,0,none⟩) (n+m) cp) w'):
 dV P N ⟨dst,.call ⟨.builtin .append,#[x,y],#[t,t]⟩,ty,pos,af,g⟩ σ w K:=by
 obtain ⟨hu,i,zv,hi,ae,hs,ab,ag,ac⟩:=r4 Y
 obtain ⟨ad,rfl⟩:∃ ad,a=some ad:=by cases a with | none=>exact absurd rfl I | some ad=>exact ⟨ad,rfl⟩
 have hn:∀ j v,news[j]? =some v→w.cell? (ad.add j)=some v:=fun j v C=>by
  have E:news≠[]:=fun e=>by rw [e] at C; simp at C
  have h2:=G.ok E
  simp only [fV] at h2
  rw [h2,mx,nL]; exact G.aR j v C
 obtain ⟨w',U,h2,h3⟩:=Go.run_append_fits (P:=P) (w:=w) B t ty e i size hu hi hs A n cp xs M ad m c news J hn (uD h1) V
 refine oh (w':=w') (v:= .slice (some ⟨A,0,none⟩) (n+m) cp) ?_<|k w' ⟨h3.os,h3.output,h3.size,fun q O E=>h3.block q O fun e=>E<|rk e⟩ h2
 simp [execOp,resolve,invoke,builtin,Z,aa,U]
end
end Go.Hb
end
section
namespace Go.Hb
def qk (P:Program) (t:TypeId):Option (Nat×Nat):=
 match P.underlying t with
 | some (.array n e)=>(P.info? e).map fun i=>(n,i.size)
 | _=>none
section
variable {P:Program} {N:Fm} {σ:Nat→Value} {w:World} {dst:Option Nat} {ty:TypeId} {pos :String} {af:Array Edge} {g:Option (Nat×Bool)} {x y:Operand}
theorem kg {t n q b off :Nat} {k:IntKind} {i:Int} (he:qk P t=some (n,q)) (A:ev N σ x= .pointer (some ⟨b,off,none⟩)) (C:ev N σ y= .int k i) (a:0≤i∧i < n):
 (execOp (ev N σ) ⟨dst,.indexAddr t x y,ty,pos,af,g⟩).run P w= .ok (.value<|.pointer<|some ⟨b,off+i.toNat*q,none⟩) w:=by
 unfold qk at he
 cases hd:P.underlying t with
 | none=>rw [hd] at he; cases he
 | some d=>
   rw [hd] at he
   cases d <;> first | (cases he; done) | skip
   rename_i m e
   cases hi:P.info? e with
   | none=>simp [hi] at he
   | some j=>
     simp only [hi,mo,fV,sD] at he
     obtain ⟨rfl,rfl⟩:=he
     simp [execOp,Instr.indexAt,qZ,A,C,asIntOf,eA hd,a.1,a.2,sizeOf,jh hi,mx]
end
theorem V8 {h:Array Obj} {b:Nat} {a:List UInt8} (i:bP h b (marksOf a)) (c:UInt8):Hb.aR h b (0 +((c.toNat:Nat):Int).toNat*1)=some (.bool<|decide (c∈a)):=by
 rw [i.aR,show 0 +((c.toNat:Nat):Int).toNat*1=c.toNat from by omega]; exact V5 a c
theorem V9 {h:Array Obj} {b:Nat} {a:List UInt8} {c:UInt8} (i:bP h b ((marksOf a).set (0 +((c.toNat:Nat):Int).toNat*1)<|.bool true)):bP h b (marksOf<|a++ [c]):=by
 rw [show 0 +((c.toNat:Nat):Int).toNat*1=c.toNat from by omega,V7] at i; exact i
end Go.Hb
end
section
namespace Go.Hb
theorem Vl (c:UInt8):∀ l:List UInt8,Nc l c=fj c l:=by
 intro l
 induction l with
 | nil=>rfl
 | cons b l A=>
   unfold Nc
   rw [A]
   rw [show fj c (b::l)=if (b::l).idxOf c < (b::l).length then ((b::l).idxOf c:Int) else -1 from rfl,List.idxOf_cons]
   by_cases h:(b==c)=true
   · rw [if_pos h,h]; rfl
   · have i:(b==c)=false :=by simpa using h
     rw [if_neg h,i]
     simp only [cond_false,c7]
     by_cases h1:l.idxOf c < l.length
     · have a:fj c l=l.idxOf c:=if_pos h1
       rw [a,if_neg (fun q=>by have :=eq_of_beq q; omega),if_pos ab]; rfl
     · have a:fj c l= -1:=if_neg h1
       rw [a,if_pos az,if_neg ab]
theorem XW {P:Program} {f:FuncId} {fn:Func} (i:P.funcs[f]? =some fn) (q:(fn.name== "runtime.NumGoroutine")=false) (a:fn.body.isNone=true) (hn:M3 fn=none)
 (he:M2 fn=some Z6) (l:List UInt8) (c:UInt8) (w:World):(callFunc f #[str l,.int .u8 c.toNat]).run P w= .ok (.value<|.int .i64<|fj c l) w:=by
 rw [run_callFunc_extern i q a hn he]
 unfold str
 rw [Lib.run_indexByteString]
 have h1:((c.toNat:Int)).toNat.toUInt8=c:=k6.1<|by simp
 rw [h1,Vl]
 rfl
theorem XV {P:Program} {f:FuncId} {fn:Func} (i:P.funcs[f]? =some fn) (q:(fn.name== "runtime.NumGoroutine")=false) (a:fn.body.isNone=true) (hn:M3 fn=none)
 (he:M2 fn=some Z5) (l:List UInt8) (c:UInt8) (w:World):(callFunc f #[str l,.int .u8 c.toNat]).run P w= .ok (.value<|.int .i64 (l.count c:Nat)) w:=by
 rw [run_callFunc_extern i q a hn he]
 unfold str
 rw [Lib.run_countString]
 have h1:((c.toNat:Int)).toNat.toUInt8=c:=k6.1<|by simp
 rw [h1]
 rfl
section
variable {P:Program} {N:Fm} {σ:Nat→Value} {w:World} {dst:Option Nat} {ty:TypeId} {pos :String} {af:Array Edge} {g:Option (Nat×Bool)}
theorem GJ {f:FuncId} {a b v:Value} {args:Array Operand} {i:Array TypeId} (h:(callFunc f #[a,b]).run P w= .ok (.value v) w) (q:args.toList.map (ev N σ)= [a,b]):
 (execOp (ev N σ) ⟨dst,.call ⟨.value (.func f),args,i⟩,ty,pos,af,g⟩).run P w= .ok (.value v) w:=by
 have :args.map (ev N σ)= #[a,b]:=by rw [← zz,nz,q]
 simp [execOp,resolve,ev,qY,invoke,this,h]
end
end Go.Hb
end
section
namespace Go.Hb
theorem X4 {L:List Value} {o:Nat} {v:Value} (h:o < L.length):(L.set o v).take (o+1)=L.take o++ [v]:=by
 rw [List.set_eq_take_append_cons_drop,if_pos h,xa,dQ,pc ab,Nat.add_sub_cancel_left,eU (by rw [dQ]; omega)]
 rfl
theorem X3 {L:List Value} {o m:Nat} {v:Value} (h:o < m):(L.set o v).drop m=L.drop m:=by
 rw [List.drop_set,if_pos h]
theorem Lf (b e:Nat):∀ (vs:List Value) (o:Nat) (L:List Value) (w:World),w.heap[b]? =some (.cells L.toArray e (0,0))→o+vs.length≤L.length→
 (w.setCells b o vs).heap[b]? =some (.cells (L.take o++vs++L.drop (o+vs.length)).toArray e (0,0))∧Md (fun k=>k=b) w (w.setCells b o vs):=by
 intro vs
 induction vs with
 | nil=>intro o L w a _; exact ⟨by simpa [World.setCells] using a,Md.refl _ _⟩
 | cons v r E=>
   intro o L w a q
   simp only [c7] at q
   have h1:(w.setCell ⟨b,o,none⟩ v).heap[b]? =some (.cells (L.set o v).toArray e (0,0)):=by
    have A:=(dB.1 a).1
    have C:w.heap[b]= .cells L.toArray e (0,0):=(dB.1 a).2
    simp only [zO]
    rw [Array.getElem?_eq_getElem (by simpa using A),Array.getElem_modify]
    simp [C,List.setIfInBounds_toArray]
   have i:Md (fun k=>k=b) w (w.setCell ⟨b,o,none⟩ v):=⟨rfl,rfl,by simp [zO],fun k _ hk=>Below.heap_setCell w _ v k hk⟩
   obtain ⟨h2,h3⟩:=E (o+1) (L.set o v) _ h1<|by rw [List.length_set]; omega
   refine ⟨?_,Md.trans i h3⟩
   show ((w.setCell ⟨b,o,none⟩ v).setCells b (o+1) r).heap[b]? =_
   rw [h2,X4 ab,X3 ab,c7,show o+1 +r.length=o+(r.length+1) from by omega]
   simp
section
variable {P:Program} {N:Fm} {σ:Nat→Value} {w:World} {ty:TypeId} {pos :String} {af:Array Edge} {g:Option (Nat×Bool)} {x:Operand} {K:(Nat→Value)→World→Prop}
theorem Rp {t e B n k cp E m:Nat} {a:Option Addr} {xs:List Value} {z:Value} (ah:P.underlying t=some (.slice e)) (aj:zeroV P e=some z) (h1:z.oneCell'=true) (Y:w.ownsRow B e 1 (.slice a n cp) n xs)
 (G:ev N σ x= .slice (gv a cp k 1) m E) (hm:m=n - k) (hk:k < n) (ak:∀ w',Md (fun q=>(bS a n cp).ownBlock=some q) w w'→w'.ownsRow B e 1 (.slice a n cp) n (xs.take k++kp (n - k) z)→K σ w'):
 dV P N ⟨none,.call ⟨.builtin .clear,#[x],#[t]⟩,ty,pos,af,g⟩ σ w K:=by
 obtain ⟨J,h⟩:=Y
 subst hm
 rcases h with ⟨h,rfl⟩ | ⟨i,al,cur,h,M,U,hle,O,ag,ai⟩
 · omega
 · simp only [mT,true_and] at h
   obtain ⟨rfl,rfl⟩:=h
   have ae:gv (some ⟨i,0,none⟩) cp k 1=some ⟨i,k,none⟩:=by
    unfold gv; rw [if_neg ab]; simp [mx]
   rw [ae] at G
   have C:w.heap[i]? =some (.cells cur.toList.toArray e (0,0)):=by simpa using U
   have A:cur.toList.length=cp*1:=by rw [wc]; exact ag
   have ac:=Nd (P:=P) w t e ty z ah (fun w=>zu aj w) (by cases z <;> first | rfl | (cases h1; done)) h1 i k (n - k) E ab
    (fun j V=>by rw [nL,a7 C]; simp; omega) (fun j V=>by simp only [No,show w.heap[i]? =_ from C]; simp)
   obtain ⟨h2,h3⟩:=Lf i e (kp (n - k) z) k cur.toList w C<|by rw [ot,A]; omega
   refine oh (w':=w.setCells i k<|kp (n - k) z) (v:= .tuple #[]) ?_ (ak _ (h3.mono fun q _ Z=>by subst Z; rfl) ⟨?_,.inr ⟨i,cp,_,aa,M,h2,hle,O,?_,?_⟩⟩)
   · simp [execOp,resolve,invoke,builtin,G,ac]
   · rw [bM,dQ,ot,J]; omega
   · simp only [ou,bM,dQ,fT,ot,A]; omega
   · rw [ot,pd]
     have I:(cur.toList.take k++kp (n - k) z++cur.toList.drop (k+(n - k))).toArray.toList=(cur.toList.take k++kp (n - k) z)++cur.toList.drop (k+(n - k)):=rfl
     rw [I,xa,bM,dQ,ot,A,pc ab,show n - (k+(n - k))=0 by omega,ow,ei,eU (by rw [bM,dQ,ot,A]; omega)]
     rw [← ai,NU,pd,pc ab]
theorem Rq {t e B n cp E m:Nat} {a:Option Addr} {xs:List Value} {z:Value} (ai:P.underlying t=some (.slice e)) (ak:zeroV P e=some z) (h1:z.oneCell'=true) (Z:w.ownsRow B e 1 (.slice a n cp) n xs) (O:a≠none)
 (G:ev N σ x= .slice (gv a cp n 1) m E) (hm:0 < m∧n+m≤cp) (al:∀ w',Md (fun q=>(bS a n cp).ownBlock=some q) w w'→w'.ownsRow B e 1 (.slice a n cp) n xs→K σ w'):
 dV P N ⟨none,.call ⟨.builtin .clear,#[x],#[t]⟩,ty,pos,af,g⟩ σ w K:=by
 obtain ⟨J,h⟩:=Z
 rcases h with ⟨h,rfl⟩ | ⟨i,am,cur,h,M,V,hle,U,ah,aj⟩
 · simp only [mT] at h; exact absurd h.1 O
 · simp only [mT,true_and] at h
   obtain ⟨rfl,rfl⟩:=h
   have ag:gv (some ⟨i,0,none⟩) cp n 1=some ⟨i,n,none⟩:=by
    unfold gv; rw [if_neg ab]; simp [mx]
   rw [ag] at G
   have C:w.heap[i]? =some (.cells cur.toList.toArray e (0,0)):=by simpa using V
   have A:cur.toList.length=cp*1:=by rw [wc]; exact ah
   have ae:=Nd (P:=P) w t e ty z ai (fun w=>zu ak w) (by cases z <;> first | rfl | (cases h1; done)) h1 i n m E hm.1
    (fun j Y=>by rw [nL,a7 C]; simp; omega) (fun j Y=>by simp only [No,show w.heap[i]? =_ from C]; simp)
   obtain ⟨h2,h3⟩:=Lf i e (kp m z) n cur.toList w C<|by rw [ot,A]; omega
   refine oh (w':=w.setCells i n<|kp m z) (v:= .tuple #[]) ?_ (al _ (h3.mono fun q _ ac=>by subst ac; rfl) ⟨J,.inr ⟨i,cp,_,aa,M,h2,hle,U,?_,?_⟩⟩)
   · simp [execOp,resolve,invoke,builtin,G,ae]
   · simp only [ou,bM,dQ,fT,ot,A]; omega
   · rw [ot,pd]
     have I:(cur.toList.take n++kp m z++cur.toList.drop (n+m)).toArray.toList=cur.toList.take n++(kp m z++cur.toList.drop (n+m)):=dH _ _ _
     rw [I,xa,dQ,A,pc ab,Nat.sub_self,ow,ei,eU (by rw [dQ]; omega),← aj,pd]
end
end Go.Hb
end
section
namespace Go.Hb
def Am (P:Program) (t:TypeId):Option (List Value):=
 match P.info? t,P.underlying t with
 | some it,some (.array _ e)=>
   match it.zero,P.info? e with
   | some z,some ie=>if ie.size=1 then some z.cells.toList else none
   | _,_=>none
 | _,_=>none
def vC:List Value→List (Nat×Value)→Option (List Value)
 | a,[]=>some a
 | a,(i,v)::r=>if (v.oneCell' && gG i a.length)=true then vC (a.set i v) r else none
theorem Xc {a L:List Value} {ps:List (Nat×Value)} (h:vC a ps=some L):oZ (fun i=>some (i*1,1)) a.toArray ps=some L.toArray:=by
 induction ps generalizing a with
 | nil=>simp only [vC,fV] at h; subst h; rfl
 | cons q r E=>
   obtain ⟨i,v⟩:=q
   rw [vC] at h
   split at h
   · rename_i A
     simp only [gU] at A
     have C:=qO A.1
     have G:i < a.length:=Nat.le_of_ble_eq_true A.2
     simp only [oZ,C,pd]
     rw [if_neg (by simp; omega)]
     have :=E h
     simp only [pd] at this
     rw [← this]
     simp
   · cases h
section
variable {P:Program} {N:Fm} {σ:Nat→Value} {w:World} {dst:Option Nat} {ty:TypeId} {pos :String} {af:Array Edge} {g:Option (Nat×Bool)}
theorem Ft {t:TypeId} {parts:Array (Nat×Operand)} {a L:List Value} {ps:List (Nat×Value)} (h:Am P t=some a) (hp:parts.toList.map (fun q=>(q.1,ev N σ q.2))=ps) (i:vC a ps=some L):
 (execOp (ev N σ) ⟨dst,.build t parts,ty,pos,af,g⟩).run P w= .ok (.value<|.agg L.toArray) w:=by
 unfold Am at h
 split at h
 · rename_i it n e hi hu
   split at h
   · rename_i z E C he
     split at h
     · rename_i hs
       simp only [fV] at h
       subst h
       have A:P.built t (parts.map fun q=>(q.1,ev N σ q.2)).toList=some L.toArray:=by
        have :=Xc i
        simp only [Array.toArray_toList] at this
        simp only [Program.built,hi,hu,C,he,hs,nz,hp]; exact this
       simp [execOp,run_build w t _ _ A]
     · cases h
   · cases h
 · cases h
end
end Go.Hb
end
section
namespace Go.Hb
abbrev bH:Type :=Tx×List Nat
noncomputable def ga (F:aU) (row:List Tx):Except Nat bH:=
 if row.length≠1 then .error 111
 else if (bD<|row.getD 0 []).2.2.2≠0 then .error (bD<|row.getD 0 []).2.2.2
 else if gy (bD<|row.getD 0 []).1=false∨(bD<|row.getD 0 []).1= [] then .error 21
 else if 64 < (bD<|row.getD 0 []).1.length then .error 22
 else if (bD<|row.getD 0 []).2.2.1=false then .ok ((bD<|row.getD 0 []).1,[])
 else match fX F.kind F.aliases (bD<|row.getD 0 []).2.1 with
  | .error e=> .error e
  | .ok set =>if set.all (eJ F)=true then .ok ((bD<|row.getD 0 []).1,set) else .error 120
section
variable {F:aU} {row:List Tx}
theorem Hq (h:row.length≠1):ga F row= .error 111:=if_pos h
theorem xU (h:row.length=1) (h1:(bD<|row.getD 0 []).2.2.2≠0):ga F row= .error (bD<|row.getD 0 []).2.2.2:=by
 unfold ga; rw [if_neg (fun h2=>h2 h),if_pos h1]
variable (h:row.length=1) (h1:(bD (row.getD 0 [])).2.2.2=0)
include h h1
theorem xV (h2:gy (bD<|row.getD 0 []).1=false∨(bD<|row.getD 0 []).1= []):ga F row= .error 21:=by
 unfold ga; rw [if_neg (fun h2=>h2 h),if_neg (fun h2=>h2 h1),if_pos h2]
variable (h2:gy (bD (row.getD 0 [])).1=true) (h3:(bD (row.getD 0 [])).1≠[])
include h2 h3
omit h h1 in
theorem uM:¬(gy (bD<|row.getD 0 []).1=false∨(bD<|row.getD 0 []).1= []):=fun h=>h.elim (fun h=>by rw [h2] at h; cases h) h3
theorem Hr (h4:64 < (bD<|row.getD 0 []).1.length):ga F row= .error 22:=by
 unfold ga; rw [if_neg (fun h2=>h2 h),if_neg (fun h2=>h2 h1),if_neg (uM h2 h3),if_pos h4]
variable (h4:¬64 < (bD (row.getD 0 [])).1.length)
include h4
theorem Hs (h5:(bD<|row.getD 0 []).2.2.1=false):ga F row= .ok ((bD<|row.getD 0 []).1,[]):=by
 unfold ga; rw [if_neg (fun h2=>h2 h),if_neg (fun h2=>h2 h1),if_neg (uM h2 h3),if_neg h4,if_pos h5]
variable (h5:(bD (row.getD 0 [])).2.2.1=true)
include h5
theorem Ht {e:Nat} (a:fX F.kind F.aliases (bD<|row.getD 0 []).2.1= .error e):ga F row= .error e:=by
 unfold ga; rw [if_neg (fun h2=>h2 h),if_neg (fun h2=>h2 h1),if_neg (uM h2 h3),if_neg h4,if_neg (by rw [h5]; exact eo),a]
theorem Hu {set :List Nat} {i:Nat} (a:fX F.kind F.aliases (bD<|row.getD 0 []).2.1= .ok set) (hi:i < set.length) (q:eJ F (set.getD i 0)=false):ga F row= .error 120:=by
 unfold ga; rw [if_neg (fun h2=>h2 h),if_neg (fun h2=>h2 h1),if_neg (uM h2 h3),if_neg h4,if_neg (by rw [h5]; exact eo),a]
 exact if_neg<|by rw [Fc 0 hi q]; exact eo
theorem Bu {set :List Nat} (a:fX F.kind F.aliases (bD<|row.getD 0 []).2.1= .ok set) (q:∀ i,i < set.length→eJ F (set.getD i 0)=true):ga F row= .ok ((bD<|row.getD 0 []).1,set):=by
 unfold ga; rw [if_neg (fun h2=>h2 h),if_neg (fun h2=>h2 h1),if_neg (uM h2 h3),if_neg h4,if_neg (by rw [h5]; exact eo),a]
 exact if_pos<|Ff 0 q
end
noncomputable def fi (F:aU) (eof:Nat):Nat→List Rw→Except (Nat×Nat) (List bH)
 | 0,[]=> .ok []
 | _+1,[]=> .error (eof,116)
 | 0,(ln,_)::_=> .error (ln,116)
 | n+1,(ln,row)::rows=>match ga F row with
   | .error e=> .error (ln,e)
   | .ok x=>match fi F eof n rows with
     | .error e=> .error e
     | .ok r=> .ok (x::r)
noncomputable def fq (F:aU) (t:Tx):Except (Nat×Nat) (List bH):=
 if 65536 < t.length then .error (0,10)
 else match bR t with
  | []=> .error ((bL t).length+1,116)
  | (ln,row)::rows=>if row.length≠1 then .error (ln,111) else match e5 (row.getD 0 []) 8192 with
    | .error e=> .error (ln,e)
    | .ok n=>fi F ((bL t).length+1) n rows
def iS (F:aU) (eof:Nat) (T:Except (Nat×Nat) (List bH)) (xs:List bH) (n:Nat) (rows:List Rw):Prop :=
 T=match fi F eof n rows with
  | .error e=> .error e
  | .ok r=> .ok<|xs++r
section
variable {F:aU} {eof n ln:Nat} {T:Except (Nat×Nat) (List bH)} {xs:List bH} {rows:List Rw} {row:List Tx}
theorem iS.start:iS F eof (fi F eof n rows) [] n rows:=by
 unfold iS; cases fi F eof n rows <;> rfl
theorem iS.done (h:iS F eof T xs 0 []):T= .ok xs:=by
 unfold iS at h; rw [fi] at h; simpa using h
theorem iS.ends (h:iS F eof T xs n []) (hn:0 < n):T= .error (eof,116):=by
 obtain ⟨m,rfl⟩:∃ m,n=m+1:=⟨n - 1,ab⟩
 unfold iS at h; rw [fi] at h; exact h
theorem iS.more (h:iS F eof T xs 0 ((ln,row)::rows)):T= .error (ln,116):=by
 unfold iS at h; rw [fi] at h; exact h
theorem iS.bad {e:Nat} (h:iS F eof T xs n ((ln,row)::rows)) (hn:0 < n) (he:ga F row= .error e):T= .error (ln,e):=by
 obtain ⟨m,rfl⟩:∃ m,n=m+1:=⟨n - 1,ab⟩
 unfold iS at h; rw [fi,he] at h; exact h
theorem iS.step {x:bH} (h:iS F eof T xs n ((ln,row)::rows)) (hn:0 < n) (he:ga F row= .ok x):iS F eof T (xs++ [x]) (n - 1) rows:=by
 obtain ⟨m,rfl⟩:∃ m,n=m+1:=⟨n - 1,ab⟩
 unfold iS at h ⊢; rw [fi,he] at h
 rw [h,sx]
 simp only
 cases fi F eof m rows <;> simp
end
section
variable {F:aU} {t:Tx}
theorem Hi (h:65536 < t.length):fq F t= .error (0,10):=if_pos h
theorem Hj (h:¬65536 < t.length) (h1:bR t= []):fq F t= .error ((bL t).length+1,116):=by
 unfold fq; rw [if_neg h,h1]
variable {ln:Nat} {row:List Tx} {rows:List Rw} (h:¬65536 < t.length) (h1:bR t=(ln,row)::rows)
include h h1
theorem SC (h2:row.length≠1):fq F t= .error (ln,111):=by
 unfold fq; rw [if_neg h,h1]; exact if_pos h2
theorem SF (h2:row.length=1) {e:Nat} (h3:e5 (row.getD 0 []) 8192= .error e):fq F t= .error (ln,e):=by
 unfold fq; rw [if_neg h,h1]; simp only; rw [if_neg (fun h=>h h2),h3]
theorem Hh (h2:row.length=1) {n:Nat} (h3:e5 (row.getD 0 []) 8192= .ok n):fq F t=fi F ((bL t).length+1) n rows:=by
 unfold fq; rw [if_neg h,h1]; simp only; rw [if_neg (fun h=>h h2),h3]
end
theorem T7 {α:Type} {a b:List α} {i:Nat} {d:α} (h:i < a.length):(a++b).getD i d=a.getD i d:=by
 rw [da,da,mm h]
def idxs (s:Tx) (xs:List bH):List Nat:=(j6 xs.length).filter fun i=>decide ((xs.getD i ([],[])).1=s)
theorem Ct (s:Tx) (xs:List bH) (x:bH):idxs s (xs++ [x])=idxs s xs++(if x.1=s then [xs.length] else []):=by
 unfold idxs
 rw [bM,e9,List.range_succ,List.filter_append]
 congr 1
 · refine List.filter_congr fun i hi=> ?_
   have hi:i < xs.length:=by simpa using hi
   rw [T7 hi]
 · by_cases a:x.1=s <;> simp [List.filter,a]
theorem Ja (s:Tx) (xs:List bH):(idxs s xs).length≤xs.length:=by
 unfold idxs; have :=zS (fun i=>decide ((xs.getD i ([],[])).1=s)) (j6 xs.length); simpa using this
theorem S1 {F:aU} {eof:Nat} :∀ {n:Nat} {rows:List Rw} {r:List bH},fi F eof n rows= .ok r→r.length=n∧rows.length=n:=by
 intro n
 induction n with
 | zero=>
   intro rows r h
   cases rows with
   | nil=>rw [fi] at h; cases h; exact ⟨rfl,rfl⟩
   | cons q rows=>rw [fi] at h; cases h
 | succ n a=>
   intro rows r h
   cases rows with
   | nil=>rw [fi] at h; cases h
   | cons q rows=>
     rw [fi] at h
     split at h
     · cases h
     · split at h
       · cases h
       · rename_i h2
         cases h
         have :=a h2
         simp only [c7]; omega
end Go.Hb
end
section
namespace Go.Hb
section
variable {P:Program} {N:Fm} {σ:Nat→Value} {w:World} {dst:Option Nat} {ty:TypeId} {pos :String} {af:Array Edge} {g:Option (Nat×Bool)} {x:Operand}
theorem ON {t n i b:Nat} (he:qk P t=some (n,i)) (a:ev N σ x= .pointer (some ⟨b,0,none⟩)):
 (execOp (ev N σ) ⟨dst,.slice t x none none none,ty,pos,af,g⟩).run P w= .ok (.value<|.slice (some ⟨b,0,none⟩) n n) w:=by
 unfold qk at he
 cases hd:P.underlying t with
 | none=>rw [hd] at he; cases he
 | some d=>
   rw [hd] at he
   cases d <;> first | (cases he; done) | skip
   rename_i m e
   cases hi:P.info? e with
   | none=>simp [hi] at he
   | some j=>
     simp only [hi,mo,fV,sD] at he
     obtain ⟨rfl,rfl⟩:=he
     simp [execOp,si,qZ,o0,a,eA hd,sizeOf,jh hi,mx]
def BE (P:Program) (t f:Nat):Option (Nat×Nat):=
 match P.underlying t with
 | some (.struct fs)=>(fs[f]?).map fun d=>(d.type,d.offset)
 | _=>none
theorem TD {t f q off n:Nat} {cs vs:List Value} (h:BE P t f=some (q,off)) (a:dF P q=some (some n)) (E:ev N σ x= .agg cs.toArray) (C:(cs.drop off).take n=vs):
 (execOp (ev N σ) ⟨dst,.field t x f,ty,pos,af,g⟩).run P w= .ok (.value<|.agg vs.toArray) w:=by
 subst C
 unfold BE at h
 cases hd:P.underlying t with
 | none=>rw [hd] at h; cases h
 | some d=>
   rw [hd] at h
   cases d <;> first | (cases h; done) | skip
   rename_i fs
   simp only [pj] at h
   obtain ⟨fd,A,he⟩:=h
   cases he
   unfold dF at a
   cases hd2:P.underlying fd.type with
   | none=>rw [hd2] at a; cases a
   | some d2=>
     rw [hd2] at a
     cases hi:P.info? fd.type with
     | none=>simp [Ng,hi] at hd2
     | some i=>
       rw [hi] at a
       have G:cs.toArray.extract fd.offset (fd.offset+n)=((cs.drop fd.offset).take n).toArray:=by simp
       cases d2 <;> first
        | (cases a; done)
        | (simp only [mo,fV] at a; subst a
           simp [execOp,M7,eA hd,A,E,asAgg,part,isAgg,eA hd2,sizeOf,jh hi])
end
end Go.Hb
end
section
namespace Go.Hb
def nM:dm:=⟨0,0,false,0,0⟩
def gL (F:aU):dm:=F.bA.getD (F.bA.length - 1) nM
noncomputable def jc (F:aU) (ln:Nat) (row:List Tx):Except Nat aU:=
 if row.getD 0 []=fk then (match kJ ln row with | .error e=> .error e | .ok x=> .ok {F with dt:=F.dt++ [x]})
 else if row.getD 0 []=eL then (match ky F.kind ln row with | .error e=> .error e | .ok x=> .ok {F with aliases:=F.aliases++ [x]})
 else match fI F.kind F.aliases (gL F) ln row with | .error e=> .error e | .ok x=> .ok {F with rules:=F.rules++ [x]}
noncomputable def gQ (hd:List Tx) (eof:Nat):Nat→aU→List Rw→Except (Nat×Nat) (aU×List Rw)
 | 0,F,rows=> .ok (F,rows)
 | _+1,F,[]=> .error (eof,116)
 | n+1,F,(ln,row)::rows=>if row.take hd.length≠hd then .error (ln,116) else match jc F ln row with
   | .error e=> .error (ln,e)
   | .ok F'=>gQ hd eof n F' rows
theorem ze {row:List Tx} {k:Tx} (h:row≠[]):row.take [k].length= [k]↔row.getD 0 []=k:=by
 cases row with
 | nil=>exact absurd rfl h
 | cons a l=>simp
theorem zf {row:List Tx} {k j:Tx} :row.take [k,j].length= [k,j]↔2≤row.length∧row.getD 0 []=k∧row.getD 1 []=j:=by
 match row with
 | []=>simp
 | [a]=>simp
 | a::b::l=>simp
section
variable {eof:Nat}
theorem Ug:∀ (n:Nat) (F:aU) (rows:List Rw),gQ [fk] eof n F rows=match group [fk] kJ eof n rows with | .error e=> .error e | .ok r=> .ok ({F with dt:=F.dt++r.1},r.2):=by
 intro n
 induction n with
 | zero=>intro F rows; simp [gQ,group]
 | succ n A=>
   intro F rows
   cases rows with
   | nil=>simp [gQ,group]
   | cons q rows=>
     obtain ⟨ln,row⟩:=q
     simp only [gQ,group]
     by_cases a:row.take [fk].length≠[fk]
     · rw [if_pos a,if_pos a]
     · rw [if_neg a,if_neg a]
       have i:row.getD 0 []=fk:=by
        refine (ze ?_).1<|jr.1 a
        rintro rfl; exact a<|by simp
       unfold jc
       rw [if_pos i]
       cases kJ ln row with
       | error e=>rfl
       | ok x=>
         simp only
         rw [A]
         cases group [fk] kJ eof n rows with
         | error e=>rfl
         | ok r=>simp only [dH]; rfl
theorem Uf:∀ (n:Nat) (F:aU) (rows:List Rw),gQ [eL] eof n F rows=match group [eL] (ky F.kind) eof n rows with | .error e=> .error e | .ok r=> .ok ({F with aliases:=F.aliases++r.1},r.2):=by
 intro n
 induction n with
 | zero=>intro F rows; simp [gQ,group]
 | succ n A=>
   intro F rows
   cases rows with
   | nil=>simp [gQ,group]
   | cons q rows=>
     obtain ⟨ln,row⟩:=q
     simp only [gQ,group]
     by_cases a:row.take [eL].length≠[eL]
     · rw [if_pos a,if_pos a]
     · rw [if_neg a,if_neg a]
       have i:row.getD 0 []=eL:=by
        refine (ze ?_).1<|jr.1 a
        rintro rfl; exact a<|by simp
       unfold jc
       rw [if_neg (by rw [i]; decide),if_pos i]
       cases ky F.kind ln row with
       | error e=>rfl
       | ok x=>
         simp only
         rw [A]
         cases group [eL] (ky F.kind) eof n rows with
         | error e=>rfl
         | ok r=>simp only [dH]; rfl
theorem Uh {a h1:Tx} (hk:a≠fk) (C:a≠eL):∀ (n:Nat) (F:aU) (rows:List Rw),gQ [a,h1] eof n F rows=match group [a,h1] (fI F.kind F.aliases<|gL F) eof n rows with | .error e=> .error e | .ok r=> .ok ({F with rules:=F.rules++r.1},r.2):=by
 intro n
 induction n with
 | zero=>intro F rows; simp [gQ,group]
 | succ n E=>
   intro F rows
   cases rows with
   | nil=>simp [gQ,group]
   | cons q rows=>
     obtain ⟨ln,row⟩:=q
     simp only [gQ,group]
     by_cases i:row.take [a,h1].length≠[a,h1]
     · rw [if_pos i,if_pos i]
     · rw [if_neg i,if_neg i]
       have A:row.getD 0 []=a:=(zf.1<|jr.1 i).2.1
       unfold jc
       rw [if_neg (by rw [A]; exact hk),if_neg (by rw [A]; exact C)]
       cases fI F.kind F.aliases (gL F) ln row with
       | error e=>rfl
       | ok x=>
         simp only
         rw [E]
         show (match group [a,h1] (fI F.kind F.aliases<|gL F) eof n rows with | .error e=>_ | .ok r=>_)=_
         cases group [a,h1] (fI F.kind F.aliases<|gL F) eof n rows with
         | error e=>rfl
         | ok r=>simp only [dH]; rfl
end
section
variable {hd:List Tx} {eof n ln:Nat} {F:aU} {row:List Tx} {rows:List Rw} {T:Except (Nat×Nat) (aU×List Rw)}
theorem Ud (h:gQ hd eof n F []=T) (hn:0 < n):T= .error (eof,116):=by
 obtain ⟨m,rfl⟩:∃ m,n=m+1:=⟨n - 1,ab⟩
 exact h.symm
theorem Ch (h:gQ hd eof n F ((ln,row)::rows)=T) (hn:0 < n) (a:row.take hd.length≠hd):T= .error (ln,116):=by
 obtain ⟨m,rfl⟩:∃ m,n=m+1:=⟨n - 1,ab⟩
 rw [← h,gQ,if_pos a]
theorem Ub {e:Nat} (h:gQ hd eof n F ((ln,row)::rows)=T) (hn:0 < n) (a:row.take hd.length=hd) (he:jc F ln row= .error e):T= .error (ln,e):=by
 obtain ⟨m,rfl⟩:∃ m,n=m+1:=⟨n - 1,ab⟩
 rw [← h,gQ,if_neg (fun h2=>h2 a),he]
theorem Ue {F':aU} (h:gQ hd eof n F ((ln,row)::rows)=T) (hn:0 < n) (a:row.take hd.length=hd) (he:jc F ln row= .ok F'):gQ hd eof (n - 1) F' rows=T:=by
 obtain ⟨m,rfl⟩:∃ m,n=m+1:=⟨n - 1,ab⟩
 rw [← h,gQ,if_neg (fun h2=>h2 a),he]; rfl
theorem Uc (h:gQ hd eof 0 F rows=T):T= .ok (F,rows):=h.symm
end
def kF (head:List Tx):List Tx:=if head.length=4 then [head.getD 0 [],head.getD 1 []] else [head.getD 0 []]
theorem IZ {head:List Tx} (h:head.length≠4):kF head= [head.getD 0 []]:=if_neg h
theorem I0 {head:List Tx} (h:head.length=4):kF head= [head.getD 0 [],head.getD 1 []]:=if_pos h
theorem UM {head row:List Tx} (h:row.getD 0 []≠head.getD 0 []):row.take (kF head).length≠kF head:=by
 unfold kF
 split
 · exact fun h2=>h (zf.1 h2).2.1
 · intro h2
   cases row with
   | nil=>simp at h2
   | cons a l=>exact h<|(ze<|by simp).1 h2
theorem I2 {head row:List Tx} (h4:head.length=4) (h:row.length < 2∨row.getD 1 []≠head.getD 1 []):row.take (kF head).length≠kF head:=by
 rw [I0 h4]
 intro h2
 have :=zf.1 h2
 rcases h with h | h
 · omega
 · exact h this.2.2
theorem I3 {head row:List Tx} (a:row.getD 0 []=head.getD 0 []) (i:row≠[]) (h1:head.length=4→2≤row.length∧row.getD 1 []=head.getD 1 []):row.take (kF head).length=kF head:=by
 unfold kF
 split
 · rename_i h4; exact zf.2 ⟨(h1 h4).1,a,(h1 h4).2⟩
 · exact (ze i).2 a
def pU (k:Tx):Int:=if k∈eh then (eh.idxOf k:Nat) else -1
theorem tG {k:Tx} :(0≤pU k)↔k∈eh:=by
 unfold pU; split
 · rename_i h; exact ⟨fun _=>h,fun _=>by omega⟩
 · rename_i h; exact ⟨fun h2=>by omega,fun h2=>absurd h2 h⟩
end Go.Hb
end
namespace Go.Hb
def od (ps:List Tx) (w:Tx):Bool:=decide (ps.length≤w.length) && (j6 ps.length).all fun i=>cJ (ps.getD i [])<|w.getD i 0
def qv (ps:List Tx) (w:Tx):Bool:=decide (ps.length≤w.length) && od ps (w.drop<|w.length - ps.length)
noncomputable def iH (r:dp) (w:Tx):Bool:=
 decide ((dq r.cond).2=0∧r.strip.length < w.length) &&
  (if r.kind=2 then decide (w.drop (w.length - r.strip.length)=r.strip) && qv (dq r.cond).1 w
   else if r.kind=1 then decide (w.take r.strip.length=r.strip) && od (dq r.cond).1 w else false)
noncomputable def dJ (r:dp) (w:Tx):Option Tx:=if iH r w=true then some (if r.kind=2 then w.take (w.length - r.strip.length)++r.add else r.add++w.drop r.strip.length) else none
def e6:dp:=⟨0,0,false,[],[],[],[],0⟩
def aW (F:aU) (fs:List Nat) (kind:Nat):List Nat:=(j6 F.rules.length).filter fun i=>decide ((F.rules.getD i e6).kind=kind∧(F.rules.getD i e6).flag∈fs)
def flagsOf (xs:List bH) (e:Int):List Nat:=if 0≤e∧e < xs.length then (xs.getD e.toNat ([],[])).2 else []
def db (F:aU) (r:Int):List Nat:=if 0≤r∧r < F.rules.length then (F.rules.getD r.toNat e6).next else []
def rP (F:aU) (xs:List bH) (e:Int) (k:Nat):Bool:=decide (F.sp.getD k 0≠0∧F.sp.getD k 0∈flagsOf xs e)
def nQ (F:aU) (r:Int):Bool:=decide (0≤r∧r < F.rules.length) && !decide (F.sp.getD 0 0≠0∧F.sp.getD 0 0∈db F r)
structure bZ where
 kL:Tx
 s8:Nat
 fst:Int
 snd:Int
 pre:Int
def lL (F:aU) (n:Int):Bool:=decide (n= -1) || (F.rules.getD n.toNat e6).ew
def fC (F:aU) (xs:List bH) (e:Nat) (f s p:Int):Bool:=
 if f= -1 then decide (p≠ -1) || !rP F xs e 0
 else if nQ F (if s= -1 then f else s)=false then false
 else decide (p= -1) || (lL F f && lL F s && lL F p)
def kB (F:aU) (xs:List bH) (e:Nat) (word:Tx) (f s:Int):List bZ:=if fC F xs e f s (-1)=true then [⟨word,e,f,s,-1⟩] else []
noncomputable def jw (F:aU) (xs:List bH) (e:Nat) (word:Tx) (f s:Int) (p:Nat):Option bZ:=if fC F xs e f s p=true then (dJ (F.rules.getD p e6) word).map (fun v=>(⟨v,e,f,s,(p:Int)⟩:bZ)) else none
noncomputable def eG (F:aU) (xs:List bH) (e:Nat) (word:Tx) (f s:Int):List bZ:=kB F xs e word f s++(aW F (flagsOf xs e) 1).filterMap (jw F xs e word f s)
noncomputable def jj (F:aU) (xs:List bH) (e:Nat) (w:Tx) (s:Int) (z:Nat):List bZ:=match dJ (F.rules.getD z e6) w with
 | none=> []
 | some v=>eG F xs e v s z
noncomputable def gd (F:aU) (xs:List bH) (e:Nat) (s:Nat):List bZ:=match dJ (F.rules.getD s e6) (xs.getD e ([],[])).1 with
 | none=> []
 | some w=>eG F xs e w s (-1)++(aW F (db F s) 2).flatMap (jj F xs e w s)
noncomputable def jL (F:aU) (xs:List bH) (e:Nat):List bZ:=
 eG F xs e (xs.getD e ([],[])).1 (-1) (-1)++(aW F (flagsOf xs e) 2).flatMap (gd F xs e)
def jS (q:dp):Prop :=q.strip.length≤32∧q.add.length≤32∧q.cond.length≤4800
structure pw (F:aU):Prop where
 part:∀ (i:Nat) r,F.rules[i]? =some r→∃ c∈F.bA,c.first≤i∧i < c.first+c.count∧r.flag=c.flag∧r.kind=c.kind
 uL:∀ c∈F.bA,c.first+c.count≤F.rules.length∧∀ i,c.first≤i→i < c.first+c.count→∃ r,F.rules[i]? =some r∧r.flag=c.flag∧r.kind=c.kind
 uniq:(F.bA.map (·.flag)).Nodup
theorem IM {α:Type} {hd:List Tx} {rd:Nat→List Tx→Except Nat α} {eof:Nat} :∀ (n:Nat) (rows:List Rw) (r:List α×List Rw),group hd rd eof n rows= .ok r→∀ x∈r.1,∃ ln row,rd ln row= .ok x:=by
 intro n
 induction n with
 | zero=>intro rows r h; simp only [group,sg] at h; subst h; intro x a; cases a
 | succ n i=>
   intro rows r h
   cases rows with
   | nil=>simp [group] at h
   | cons q rows=>
     obtain ⟨ln,row⟩:=q
     simp only [group] at h
     split at h
     · cases h
     · cases hr:rd ln row with
       | error e=>rw [hr] at h; cases h
       | ok y=>
         rw [hr] at h
         simp only at h
         cases hg:group hd rd eof n rows with
         | error e=>rw [hg] at h; cases h
         | ok A=>
           rw [hg] at h
           simp only [sg] at h
           subst h
           intro x a
           rcases e7.1 a with a | a
           · exact ⟨ln,row,by rw [a]; exact hr⟩
           · exact i rows A hg x a
theorem I6 {eof ln:Nat} {F F':aU} {hs:List Tx} {rows rows':List Rw} {row:List Tx} (a:cw eof F hs rows ln row= .ok (F',rows')):
 (F'.aliases=F.aliases∧F'.bA=F.bA∧F'.rules=F.rules)∨
 (F'.bA=F.bA∧F'.rules=F.rules∧∃ l,F'.aliases=F.aliases++l∧∀ x∈l,∃ kd s,kT kd s= .ok x)∨
 (F'.aliases=F.aliases∧∃ c l,F'.bA=F.bA++ [c]∧F'.rules=F.rules++l∧c.first=F.rules.length∧c.count=l.length∧eJ F c.flag=false∧∀ x∈l,∃ ln row,fI F.kind F.aliases c ln row= .ok x):=by
 unfold cw at a
 split at a
 · unfold ko at a; split at a <;> cases a; exact .inl ⟨rfl,rfl,rfl⟩
 split at a
 · unfold kH at a
   split at a
   · cases a
   · split at a <;> cases a; exact .inl ⟨rfl,rfl,rfl⟩
 split at a
 · unfold mN at a; split at a <;> cases a; exact .inl ⟨rfl,rfl,rfl⟩
 split at a
 · unfold mR at a; split at a <;> cases a; exact .inl ⟨rfl,rfl,rfl⟩
 split at a
 · unfold kX at a
   split at a
   · cases a
   · split at a <;> cases a; exact .inl ⟨rfl,rfl,rfl⟩
 split at a
 · unfold km at a
   split at a
   · cases a
   · split at a <;> cases a; exact .inl ⟨rfl,rfl,rfl⟩
 split at a
 · unfold jU at a
   split at a
   · cases a
   · split at a
     · cases a
     · split at a
       · cases a
       · rename_i r q
         cases a
         refine .inr<|.inl ⟨aa,aa,r.1,aa,fun x a=> ?_⟩
         obtain ⟨ln,row,h⟩:=IM _ _ _ q x a
         unfold ky at h
         split at h
         · cases h
         · exact ⟨_,_,h⟩
 · unfold gO at a
   split at a
   · cases a
   · rename_i x i
     split at a
     · cases a
     · split at a
       · cases a
       · split at a
         · cases a
         · split at a
           · cases a
           · rename_i r q
             cases a
             refine .inr<|.inr ⟨aa,_,r.1,aa,aa,aa,(yx _ _ _ q).2.1.symm,?_,fun x a=>IM _ _ _ q x a⟩
             unfold gK at i
             split at i
             · cases i
             · split at i
               · cases i
               · rename_i h; cases i; simpa using h
theorem EZ {Q:aU→Prop} (i:Q hZ) (C:∀ (eof ln:Nat) (F F':aU) (hs:List Tx) (rows rows':List Rw) (row:List Tx),Q F→cw eof F hs rows ln row= .ok (F',rows')→Q F') {s:Tx} {F:aU} (h:fy s= .ok F):Q F:=by
 unfold fy at h
 split at h
 · cases h
 · split at h
   · cases h
   · rename_i f A
     split at h
     · cases h
     · cases h
       have key:∀ (k:Nat) (F F':aU) (hs:List Tx) (rows:List Rw) (eof:Nat),Q F→gM eof k F hs rows= .ok F'→Q F':=by
        intro k
        induction k with
        | zero=>intro F F' hs rows eof h a; rw [gM] at a; split at a <;> cases a; exact h
        | succ k G=>
          intro F F' hs rows eof h a
          cases rows with
          | nil=>simp only [gM,sg] at a; exact a ▸ h
          | cons q rows=>
            rw [gM] at a
            split at a
            · cases a
            · split at a
              · cases a
              · split at a
                · cases a
                · split at a
                  · cases a
                  · rename_i r E
                    exact G _ _ _ _ _ (C _ _ _ _ _ _ _ _ h E) a
       exact key _ _ _ _ _ _ i A
def la (l:List Nat):Prop :=l.Pairwise (· < ·)∧0∉l
theorem TV {kind:Nat} {s:Tx} (a:(ed kind s).2=0):la (ed kind s).1:=by
 unfold ed at a ⊢
 by_cases h1:s= []
 · rw [if_pos h1] at a; cases a
 · rw [if_neg h1] at a ⊢
   by_cases h2:∃ x∈dM kind s,eK kind x=0
   · rw [if_pos h2] at a; cases a
   · rw [if_neg h2] at a ⊢
     by_cases h3:64 < (dM kind s).length
     · rw [if_pos h3] at a; cases a
     · rw [if_neg h3]
       refine ⟨CY _,fun h4=> ?_⟩
       rw [CX,o7] at h4
       exact h2 h4
theorem Iu {kind:Nat} {s:Tx} {l:List Nat} (h:kT kind s= .ok l):la l:=by
 unfold kT at h
 split at h
 · cases h
 · rename_i a
   cases h
   exact TV<|jr.1 a
def sG (F:aU):Prop :=(∀ l∈F.aliases,la l)∧∀ q∈F.rules,la q.next∧jS q
theorem HQ {w:Tx} (h:¬gI w≠0):w.length≤32:=by
 unfold gI at h
 split at h
 · exact absurd az h
 · split at h
   · exact absurd az h
   · omega
theorem W4 {b:Bool} {fd p:Tx} (h:eF b fd= .ok p):p.length≤32:=by
 unfold eF at h
 split at h
 · cases h; exact jG _
 · split at h
   · cases h
   · split at h
     · cases h
     · split at h
       · cases h
       · rename_i a; cases h; exact HQ a
theorem Oi {r:lI} {p:Tx} (h:jK r= .ok p):p.length≤32:=by
 unfold jK at h
 split at h
 · cases h
 · split at h
   · cases h; exact jG _
   · split at h
     · cases h
     · rename_i a; cases h; exact HQ a
theorem GP (s:Tx):(dq s).1.length≤16:=by
 unfold dq
 split
 · simp
 · split
   · simp
   · split
     · simp
     · split
       · simp
       · simp only; omega
theorem X8:∀ {ps:List Tx},ps.length≤16→(me ps).length≤4800:=by
 have key:∀ ps:List Tx,(ps.flatMap fun t=>gS<|cJ t).length≤ps.length*300:=by
  intro ps
  induction ps with
  | nil=>exact jG _
  | cons t ps a=>
    have :=Dx<|cJ t
    rw [rh,bM,c7]; omega
 intro ps h
 unfold me
 split
 · simp
 · have :=key ps; omega
theorem RK {row:List Tx} {c:Tx} (h:kR row= .ok c):c.length≤4800:=by
 unfold kR at h
 split at h
 · split at h
   · cases h
   · split at h
     · cases h
     · cases h; exact X8<|GP _
 · cases h; simp
theorem vg:la []:=⟨.nil,uu⟩
theorem H0 {kind:Nat} {al:List (List Nat)} {s:Tx} {l:List Nat} (a:∀ l∈al,la l) (h:fX kind al s= .ok l):la l:=by
 unfold fX at h
 split at h
 · exact Iu h
 · split at h
   · cases h
   · split at h
     · cases h
     · cases h
       rename_i n _ _
       rw [da]
       cases hg:al[n - 1]? with
       | none=>exact vg
       | some x=>exact a x<|iR hg
theorem Du {kind ln:Nat} {al:List (List Nat)} {c:dm} {row:List Tx} {q:dp} (A:∀ l∈al,la l) (h:fI kind al c ln row= .ok q):(la q.next∧jS q)∧q.flag=c.flag∧q.kind=c.kind∧q.ew=c.ew:=by
 unfold fI at h
 split at h
 · cases h
 · split at h
   · cases h
   · rename_i hp
     split at h
     · cases h
     · rename_i i
       split at h
       · cases h
       · rename_i nx a
         split at h
         · cases h
         · rename_i C
           cases h
           refine ⟨⟨?_,W4 hp,Oi i,RK C⟩,aa,aa,aa⟩
           unfold kY at a
           split at a
           · split at a
             · cases a
             · exact H0 A a
           · cases a; exact vg
theorem BG {cs:List dm} {x:Nat} (h:(eb cs x).isSome=false):∀ c∈cs,c.flag≠x:=fun c a i=>by
 unfold eb at h
 have h1:cs.find? (fun c=>decide (c.flag=x))=none:=by
  cases h2:cs.find? (fun c=>decide (c.flag=x)) with
  | none=>rfl
  | some y=>rw [h2] at h; cases h
 have :=List.find?_eq_none.1 h1 c a
 simp [i] at this
theorem z8 {s:Tx} {F:aU} (h:fy s= .ok F):sG F∧pw F:=by
 refine EZ (Q:=fun F=>sG F∧pw F) ⟨⟨fun l U=>(by cases U),fun l U=>by cases U⟩,⟨fun i r h=>(by cases h),fun c h=>(by cases h),.nil⟩⟩ ?_ h
 rintro eof ln F F' hs rows rows' row ⟨C,E⟩ q
 refine ⟨?_,?_⟩
 · rcases I6 q with ⟨h1,_,h3⟩ | ⟨_,h2,l,h3,h4⟩ | ⟨h1,c,l,_,h3,_,_,_,h4⟩
   · exact ⟨h1 ▸ C.1,h3 ▸ C.2⟩
   · refine ⟨fun x q=> ?_,h2 ▸ C.2⟩
     rw [h3] at q
     rcases jF.1 q with q | q
     · exact C.1 x q
     · obtain ⟨_,_,h⟩:=h4 x q; exact Iu h
   · refine ⟨h1 ▸ C.1,fun x q=> ?_⟩
     rw [h3] at q
     rcases jF.1 q with q | q
     · exact C.2 x q
     · obtain ⟨_,_,h⟩:=h4 x q; exact (Du C.1 h).1
 · rcases I6 q with ⟨_,h2,h3⟩ | ⟨h2,h3,_⟩ | ⟨_,c,l,h2,h3,h4,h5,O,Z⟩
   · exact ⟨by rw [h2,h3]; exact E.part,by rw [h2,h3]; exact E.uL,by rw [h2]; exact E.uniq⟩
   · exact ⟨by rw [h2,h3]; exact E.part,by rw [h2,h3]; exact E.uL,by rw [h2]; exact E.uniq⟩
   · have V:∀ i,F.rules.length≤i→i < F.rules.length+l.length→∃ r,F'.rules[i]? =some r∧r.flag=c.flag∧r.kind=c.kind:=fun i G J=>by
      have A:i - F.rules.length < l.length:=ab
      refine ⟨l[i - F.rules.length],?_,?_⟩
      · rw [h3,mV G,cI A]
      · obtain ⟨_,_,h⟩:=Z _ (List.getElem_mem A); exact ⟨(Du C.1 h).2.1,(Du C.1 h).2.2.1⟩
     refine ⟨fun i r G=> ?_,fun d hd=> ?_,?_⟩
     · by_cases J:i < F.rules.length
       · rw [h3,mm J] at G
         obtain ⟨d,hd,A⟩:=E.part i r G
         exact ⟨d,by rw [h2]; exact List.mem_append_left _ hd,A⟩
       · have A:i < F.rules.length+l.length:=by
          have :=(fS.1 G).1; rw [h3,bM] at this; exact this
         obtain ⟨ag,I,M⟩:=V i ab A
         rw [G] at I; cases I
         exact ⟨c,by rw [h2]; exact List.mem_append_right _ (j5.2 aa),ab,ab,M⟩
     · rw [h2] at hd
       rcases jF.1 hd with hd | hd
       · obtain ⟨G,J⟩:=E.uL d hd
         refine ⟨by rw [h3,bM]; omega,fun i A I=> ?_⟩
         obtain ⟨r,M,Y⟩:=J i A I
         exact ⟨r,by rw [h3,mm ab]; exact M,Y⟩
       · obtain rfl :=j5.1 hd
         refine ⟨by rw [h3,bM]; omega,fun i A I=>V i ab ab⟩
     · rw [h2,ir,EH]
       refine ⟨E.uniq,by simp,fun a ac b ae=> ?_⟩
       obtain ⟨d,hd,rfl⟩:=o7.1 ac
       obtain rfl :b=c.flag:=by simpa using ae
       unfold eJ at O
       rw [nA] at O
       exact BG O.2 d hd
theorem SR {F:aU} {row:List Tx} {x:bH} (a:sG F) (h:ga F row= .ok x):la x.2:=by
 unfold ga at h
 split at h
 · cases h
 · split at h
   · cases h
   · split at h
     · cases h
     · split at h
       · cases h
       · split at h
         · cases h; exact vg
         · split at h
           · cases h
           · rename_i set hs
             split at h
             · cases h; exact H0 a.1 hs
             · cases h
theorem SZ {F:aU} (A:sG F) {eof:Nat} :∀ {n:Nat} {rows:List Rw} {r:List bH},fi F eof n rows= .ok r→∀ x∈r,la x.2:=by
 intro n
 induction n with
 | zero=>
   intro rows r h
   cases rows with
   | nil=>rw [fi] at h; cases h; intro x a; cases a
   | cons q rows=>rw [fi] at h; cases h
 | succ n C=>
   intro rows r h
   cases rows with
   | nil=>rw [fi] at h; cases h
   | cons q rows=>
     rw [fi] at h
     split at h
     · cases h
     · rename_i x a
       split at h
       · cases h
       · rename_i h2
         cases h
         intro y i
         rcases e7.1 i with rfl | i
         · exact SR A a
         · exact C h2 y i
theorem SD {F:aU} (a:sG F) {t:Tx} {xs:List bH} (h:fq F t= .ok xs):∀ x∈xs,la x.2:=by
 unfold fq at h
 split at h
 · cases h
 · split at h
   · cases h
   · split at h
     · cases h
     · split at h
       · cases h
       · exact SZ a h
theorem SU {F:aU} {row:List Tx} {x:bH} (h:ga F row= .ok x):1≤x.1.length:=by
 unfold ga at h
 split at h
 · cases h
 · split at h
   · cases h
   · split at h
     · cases h
     · rename_i i
       have h1:1≤(bD<|row.getD 0 []).1.length:=by
        rcases Nat.eq_zero_or_pos (bD<|row.getD 0 []).1.length with a | a
        · exact absurd (Or.inr<|fY a) i
        · exact a
       split at h
       · cases h
       · split at h
         · cases h; exact h1
         · split at h
           · cases h
           · split at h
             · cases h; exact h1
             · cases h
theorem S3 {F:aU} {eof:Nat} :∀ {n:Nat} {rows:List Rw} {r:List bH},fi F eof n rows= .ok r→∀ x∈r,1≤x.1.length:=by
 intro n
 induction n with
 | zero=>
   intro rows r h
   cases rows with
   | nil=>rw [fi] at h; cases h; intro x a; cases a
   | cons q rows=>rw [fi] at h; cases h
 | succ n A=>
   intro rows r h
   cases rows with
   | nil=>rw [fi] at h; cases h
   | cons q rows=>
     rw [fi] at h
     split at h
     · cases h
     · rename_i x a
       split at h
       · cases h
       · rename_i h2
         cases h
         intro y i
         rcases e7.1 i with rfl | i
         · exact SU a
         · exact A h2 y i
theorem SG {F:aU} {t:Tx} {xs:List bH} (h:fq F t= .ok xs):∀ x∈xs,1≤x.1.length:=by
 unfold fq at h
 split at h
 · cases h
 · split at h
   · cases h
   · split at h
     · cases h
     · split at h
       · cases h
       · exact S3 h
theorem rQ {F:aU} {fs:List Nat} {k i:Nat} :i∈aW F fs k↔i < F.rules.length∧(F.rules.getD i e6).kind=k∧(F.rules.getD i e6).flag∈fs:=by
 unfold aW; simp
theorem J0 (F:aU) (fs:List Nat) (k:Nat):(aW F fs k).Pairwise (· < ·):=Z7 _ NP
theorem rT (F:aU) (fs:List Nat) (k:Nat):(aW F fs k).length≤F.rules.length:=by
 unfold aW; have :=zS (fun i=>decide ((F.rules.getD i e6).kind=k∧(F.rules.getD i e6).flag∈fs)) (j6 F.rules.length); simpa using this
def gH (F:aU) (k f:Nat):List Nat:=match eb F.bA f with
 | some c=>if c.kind=k then (j6 c.count).map (c.first+ ·) else []
 | none=> []
theorem HL {cs:List dm} {x:Nat} {c:dm} (h:eb cs x=some c):c∈cs∧c.flag=x:=⟨List.mem_of_find?_eq_some h,by simpa using List.find?_some h⟩
theorem Tv:∀ {cs:List dm},(cs.map (·.flag)).Nodup→∀ c∈cs,eb cs c.flag=some c:=by
 intro cs
 induction cs with
 | nil=>intro _ c h; cases h
 | cons d cs q=>
   intro h c a
   rw [um,ur] at h
   unfold eb
   rw [List.find?_cons]
   rcases e7.1 a with rfl | a
   · simp
   · have i:¬d.flag=c.flag:=fun h2=>h.1<|o7.2 ⟨c,a,h2.symm⟩
     rw [decide_eq_false i]
     exact q h.2 c a
theorem yK {F:aU} (a:pw F) {k f i:Nat} :i∈gH F k f↔i < F.rules.length∧(F.rules.getD i e6).kind=k∧(F.rules.getD i e6).flag=f:=by
 unfold gH
 constructor
 · intro h
   split at h
   · rename_i c q
     split at h
     · rename_i hk
       obtain ⟨j,I,rfl⟩:=o7.1 h
       rw [uq] at I
       have h1:=HL q
       obtain ⟨h2,h3⟩:=a.uL c h1.1
       obtain ⟨r,h4,h5,A⟩:=h3 (c.first+j) ab ab
       refine ⟨ab,?_⟩
       rw [da,h4]
       exact ⟨A.trans hk,h5.trans h1.2⟩
     · cases h
   · cases h
 · rintro ⟨h1,h2,h3⟩
   have h4:F.rules[i]? =some (F.rules.getD i e6):=by rw [da,cI h1]; rfl
   obtain ⟨c,q,h5,A,E,G⟩:=a.part i _ h4
   have C:=Tv a.uniq c q
   rw [← E,h3] at C
   rw [C]
   simp only
   rw [if_pos (G.symm.trans h2)]
   exact o7.2 ⟨i - c.first,uq.2 ab,ab⟩
theorem Rr (F:aU) (k f:Nat):(gH F k f).Nodup:=by
 unfold gH
 split
 · split
   · rw [List.Nodup,NQ]
     exact Z8 (fun h=>by omega) NP
   · exact .nil
 · exact .nil
theorem JY {F:aU} (q:pw F) {k:Nat} :∀ {fs:List Nat},fs.Pairwise (· < ·)→(fs.flatMap<|gH F k).Nodup∧∀ i,i∈fs.flatMap (gH F k)↔i∈aW F fs k:=by
 intro fs h
 refine ⟨?_,fun i=> ?_⟩
 · induction fs with
   | nil=>exact .nil
   | cons f fs J=>
     rw [List.pairwise_cons] at h
     rw [rh,EH]
     refine ⟨Rr F k f,J h.2,fun a C b A E=> ?_⟩
     subst E
     obtain ⟨g,I,A⟩:=zU.1 A
     have h1:=(yK q).1 C
     have h2:=(yK q).1 A
     have :=h.1 g I
     omega
 · rw [zU,rQ]
   constructor
   · rintro ⟨f,G,hi⟩
     have h1:=(yK q).1 hi
     exact ⟨h1.1,h1.2.1,h1.2.2 ▸ G⟩
   · rintro ⟨h1,h2,h3⟩
     exact ⟨_,h3,(yK q).2 ⟨h1,h2,aa⟩⟩
theorem Yl {F:aU} (A:pw F) {fs:List Nat} (h:fs.Pairwise (· < ·)) (k:Nat):((fs.flatMap<|gH F k).map fun i:Nat=>(i:Int)).mergeSort (fun x y=>decide (x≤y))=(aW F fs k).map fun i:Nat=>(i:Int):=by
 obtain ⟨h1,h2⟩:=JY A (k:=k) h
 have hn:=J0 F fs k
 have hp:=(List.mergeSort_perm ((fs.flatMap<|gH F k).map fun i:Nat=>(i:Int)) fun x y=>decide (x≤y)).trans<|((List.perm_ext_iff_of_nodup h1<|hn.imp fun h=>by omega).2 h2).map _
 refine List.Perm.eq_of_pairwise (le:=fun x y:Int=>decide (x≤y)=true) ?_ (List.pairwise_mergeSort ?_ ?_ _) ?_ hp
 · intro a b _ _ h q; have :=of_decide_eq_true h; have :=of_decide_eq_true q; omega
 · intro a b c h q; have :=of_decide_eq_true h; have :=of_decide_eq_true q; exact decide_eq_true ab
 · intro a b; simp only [Bool.or_eq_true,decide_eq_true_eq]; omega
 · rw [NQ]; exact hn.imp fun h=>decide_eq_true ab
def ja (l:List bZ):Nat:=(l.map fun d=>d.kL.length).sum
theorem Fz (a b:List bZ):ja (a++b)=ja a+ja b:=by unfold ja; rw [ir,List.sum_append]
theorem FA (d:bZ):ja [d]=d.kL.length:=by simp [ja]
def kU (most limit:Int) (a:List bZ):Bool:=decide (most≤(a.length:Int)∨limit < (ja a:Nat))
def rR (most limit:Int) (a:List bZ) (d:bZ):List bZ:=if kU most limit a=true then a else a++ [d]
def gR (most limit:Int) (a L:List bZ):List bZ:=L.foldl (rR most limit) a
theorem vk (most limit:Int) (a L M:List bZ):gR most limit a (L++M)=gR most limit (gR most limit a L) M:=List.foldl_append
theorem Cy (most limit:Int) (a:List bZ):gR most limit a []=a:=rfl
theorem yD {most limit:Int} {a:List bZ} (h:kU most limit a=true):∀ L,gR most limit a L=a:=by
 intro L
 induction L with
 | nil=>rfl
 | cons d L i=>rw [gR,sv,rR,if_pos h]; exact i
theorem Vu {most limit:Int} (c:Nat) (M:most*c≤limit) (hm:0≤most):∀ (L a:List bZ),(∀ d∈L,d.kL.length≤c)→a.length≤most→ja a≤a.length*c→gR most limit a L=a++L.take (most.toNat - a.length):=by
 intro L
 induction L with
 | nil=>intro a _ _ _; simp [Cy]
 | cons d L C=>
   intro a i E G
   by_cases h:(a.length:Int)=most
   · rw [yD (decide_eq_true<|.inl ab),show most.toNat - a.length=0 by omega]; simp
   · have I:a.length*c≤(most.toNat)*c:=sA c ab
     have J:((most.toNat*c:Nat):Int)=most*c:=by rw [Int.natCast_mul,Int.toNat_of_nonneg hm]
     have q:kU most limit a=false :=decide_eq_false fun h2=>by rcases h2 with h2 | h2 <;> omega
     rw [gR,sv,rR,if_neg (by rw [q]; exact eo)]
     have :=C (a++ [d]) (fun x A=>i x<|rj _ A) (by rw [bM,e9]; omega) (by
      rw [Fz,FA,bM,e9,Nat.add_mul]
      have :=i d (uo ..); omega)
     rw [gR] at this
     rw [this,bM,e9,show most.toNat - a.length=(most.toNat - (a.length+1))+1 by omega,List.take_succ_cons,dH]; rfl
theorem OI {r:dp} {w v:Tx} (h:dJ r w=some v):r.strip.length < w.length∧v=(if r.kind=2 then w.take (w.length - r.strip.length)++r.add else r.add++w.drop r.strip.length):=by
 unfold dJ at h
 split at h
 · rename_i a
   unfold iH at a
   rw [gU,decide_eq_true_eq] at a
   cases h
   exact ⟨a.1.2,aa⟩
 · cases h
theorem qj {r:dp} {w v:Tx} (a:r.add.length≤32) (h:dJ r w=some v):1≤v.length∧v.length≤w.length+32:=by
 obtain ⟨h1,rfl⟩:=OI h
 split
 · rw [bM,dQ]; omega
 · rw [bM,fT]; omega
theorem Dr {F:aU} (a:∀ q∈F.rules,jS q) (i:Nat):jS (F.rules.getD i e6):=by
 rw [da]
 cases h:F.rules[i]? with
 | none=>exact ⟨jG _,jG _,jG _⟩
 | some q=>exact a q<|iR h
theorem A2 {F:aU} (a:∀ q∈F.rules,jS q) {xs:List bH} {e:Nat} {word:Tx} {f s:Int} (h1:1≤word.length):∀ d∈eG F xs e word f s,1≤d.kL.length∧d.kL.length≤word.length+32∧d.s8=e∧d.fst=f∧d.snd=s:=by
 intro d hd
 unfold eG at hd
 rcases jF.1 hd with hd | hd
 · unfold kB at hd
   split at hd
   · obtain rfl :=j5.1 hd
     exact ⟨h1,Nat.le_add_right _ _,aa,aa,aa⟩
   · cases hd
 · obtain ⟨p,_,hp⟩:=List.mem_filterMap.1 hd
   unfold jw at hp
   split at hp
   · obtain ⟨v,i,rfl⟩:=pj.1 hp
     have :=qj (Dr a p).2.1 i
     exact ⟨this.1,this.2,aa,aa,aa⟩
   · cases hp
theorem Sz {F:aU} (a:∀ q∈F.rules,jS q) {xs:List bH} {e:Nat} (h1:1≤(xs.getD e ([],[])).1.length):∀ d∈jL F xs e,1≤d.kL.length∧d.kL.length≤(xs.getD e ([],[])).1.length +96∧d.s8=e:=by
 intro d hd
 unfold jL at hd
 rcases jF.1 hd with hd | hd
 · have :=A2 a h1 d hd; exact ⟨this.1,ab,this.2.2.1⟩
 · obtain ⟨s,_,hd⟩:=zU.1 hd
   unfold gd at hd
   split at hd
   · cases hd
   · rename_i w hw
     have i:=qj (Dr a s).2.1 hw
     rcases jF.1 hd with hd | hd
     · have :=A2 a i.1 d hd; exact ⟨this.1,ab,this.2.2.1⟩
     · obtain ⟨z,_,hd⟩:=zU.1 hd
       unfold jj at hd
       split at hd
       · cases hd
       · rename_i v C
         have A:=qj (Dr a z).2.1 C
         have :=A2 a A.1 d hd; exact ⟨this.1,ab,this.2.2.1⟩
end Go.Hb
section
namespace Go.Hb
structure Gw (B:Nat) (fp:Nat→Prop) (w:World) (fp':Nat→Prop) (w':World):Prop where
 sub:∀ k,fp' k→fp k∨w.heap.size≤k
 cH:∀ (k:Nat) (cs:Array Value) (e:Nat) (z:Nat×Nat),B≤k→¬fp k→w.heap[k]? =some (.cells cs e z)→w'.heap[k]? =some (.cells cs e z)
 size:w.heap.size≤w'.heap.size
section
variable {B B':Nat} {fp fp' fp'':Nat→Prop} {w w' w'':World}
theorem Gw.trans (h:Gw B fp w fp' w') (a:Gw B fp' w' fp'' w''):Gw B fp w fp'' w'':=
 ⟨fun k hk=>(a.sub k hk).elim (h.sub k) (fun h2=> .inr<|gk h.size h2),
  fun k cs e z i hn hk=>a.cH k cs e z i (fun h2=>(h.sub k h2).elim hn fun h3=>by have :=(dB.1 hk).1; omega) (h.cH k cs e z i hn hk),gk h.size a.size⟩
theorem Gw.mono (h:Gw B fp w fp' w') (a:B≤B'):Gw B' fp w fp' w':=⟨h.sub,fun k cs e z hk=>h.cH k cs e z (gk a hk),h.size⟩
theorem Gw.md {G:Nat→Prop} (hm:Md G w w') (a:∀ k,G k→fp k∨k < B) (hs:∀ k,fp' k→fp k∨w.heap.size≤k):Gw B fp w fp' w':=
 ⟨hs,fun k cs e z i hn hk=>by rw [hm.cH k (dB.1 hk).1 (fun h=>(a k h).elim hn fun h2=>by omega)]; exact hk,hm.size⟩
theorem Gw.wk (hm:Wk w w'):Gw B fp w fp w':=Gw.md hm (fun _ h=>h.elim) fun _ h=> .inl h
theorem Gw.own {e size n:Nat} {v:Value} {xs:List Value} (h:Gw B fp w fp' w') (a:w.ownsRow B e size v n xs) (q:∀ k,v.ownBlock=some k→¬fp k):w'.ownsRow B e size v n xs∧∀ k,v.ownBlock=some k→¬fp' k:=by
 refine ⟨⟨a.1,?_⟩,fun k hk h2=>(h.sub k h2).elim (q k hk) fun h3=>by have :=(dS a hk).2; omega⟩
 rcases a.2 with h1 | ⟨g,cap,cur,A,i,C,h1⟩
 · exact .inl h1
 · exact .inr ⟨g,cap,cur,A,i,h.cH g cur e (0,0) i (q g<|by rw [A]; rfl) C,h1⟩
theorem Gw.aJ {k e:Nat} {cs:Array Value} {z:Nat×Nat} (h:Gw B fp w fp' w') (hk:w.heap[k]? =some (.cells cs e z)) (i:B≤k) (a:¬fp k):w'.heap[k]? =some (.cells cs e z)∧¬fp' k:=
 ⟨h.cH k cs e z i a hk,fun h2=>(h.sub k h2).elim a fun h3=>by have :=(dB.1 hk).1; omega⟩
end
def z6 {α:Type} (B:Nat) (a:List α→(Nat→Prop)→World→Prop):Prop := ∀ pre fp W W' (F:Nat→Prop),a pre fp W→Md F W W'→(∀ k,F k→B≤k∧∀ cur e z,W.heap[k]? =some (.cells cur e z)→¬fp k)→a pre fp W'
section
variable {F fp:Nat→Prop} {W W':World} {B:Nat}
theorem nr {b e:Nat} {cs:Array Value} {z:Nat×Nat} (h:W.heap[b]? =some (.cells cs e z)) (hm:Md F W W') (i:b < B) (a:∀ k,F k→B≤k∧∀ cur e z,W.heap[k]? =some (.cells cur e z)→¬fp k):W'.heap[b]? =some (.cells cs e z):=by
 rw [hm.cH b (dB.1 h).1 (fun hk=>by have :=(a b hk).1; omega)]; exact h
theorem LK {B' e size n:Nat} {v:Value} {xs:List Value} (h:W.ownsRow B' e size v n xs) (hm:Md F W W') (A:∀ k,v.ownBlock=some k→fp k) (a:∀ k,F k→B≤k∧∀ cur e z,W.heap[k]? =some (.cells cur e z)→¬fp k):W'.ownsRow B' e size v n xs:=
 dz h hm fun k hk i=>by
  rcases h.2 with ⟨rfl,_⟩ | ⟨g,cap,C,rfl,_,q,_⟩
  · simp [iW] at hk
  · simp only [iW,fV] at hk; subst hk; exact (a _ i).2 _ _ _ q<|A _ rfl
theorem LL {w:World} (h:Wk w W) (hm:Md F W W') (q:w.heap.size≤B) (a:∀ k,F k→B≤k∧∀ cur e z,W.heap[k]? =some (.cells cur e z)→¬fp k):Wk w W':=Md.trans' h hm fun k hk i=>by have :=(a k i).1; omega
end
def Of {α:Type} (B:Nat) (a:Bool→List α→(Nat→Prop)→World→Prop):Prop := ∀ b pre fp W W' (F:Nat→Prop),a b pre fp W→Md F W W'→(∀ k,F k→B≤k∧¬fp k∧∃ cs e z,W.heap[k]? =some (.cells cs e z))→a b pre fp W'
structure Yc {α:Type} (P:Program) (l B:Nat) (encs:α→Array Value) (xs:List α) (Cap:World→Prop) (J:Bool→List α→(Nat→Prop)→World→Prop):Prop where
 cap:∀ b pre fp W,J b pre fp W→Cap W
 lt:∀ b pre fp W,J b pre fp W→∀ k,fp k→k < W.heap.size
 st:Of B J
 yl:∀ pre x rest fp W1,xs=pre++x::rest→J true pre fp W1→YieldAt iQ 0 P l (encs x) W1 fun e W'=> ∃ b,e= .returned (.bool b)∧∃ fp',J b (pre++ [x]) fp' W'∧Gw B fp W1 fp' W'
theorem Yc.wk {α:Type} {P:Program} {l B:Nat} {q:α→Array Value} {xs:List α} {i:World→Prop} {a:Bool→List α→(Nat→Prop)→World→Prop} (h:Yc P l B q xs i a) {b:Bool} {pre:List α} {fp:Nat→Prop} {W W':World} (A:a b pre fp W) (hm:Wk W W'):a b pre fp W':=
 h.st _ _ _ _ _ _ A hm fun _ hk=>hk.elim
theorem Gw.JJ {B:Nat} {fp fp':Nat→Prop} {w a w':World} (h:Gw B fp w fp' a) {G:Nat→Prop} (hm:Md G a w') (q:∀ k,G k→w.heap.size≤k):Gw B fp w fp' w':=
 ⟨h.sub,fun k cs e z i hn hk=>by
  have h1:=(dB.1 hk).1
  rw [hm.cH k (Nat.lt_of_lt_of_le h1 h.size) (fun h2=>by have :=q k h2; omega)]; exact h.cH k cs e z i hn hk,gk h.size hm.size⟩
theorem Yc.vD {α:Type} {P:Program} {l B:Nat} {C:α→Array Value} {A:List α} {i:World→Prop} {a:Bool→List α→(Nat→Prop)→World→Prop} (h:Yc P l B C A i a) {b:Bool} {pre:List α} {fp:Nat→Prop} {W W':World} (G:a b pre fp W) {k e:Nat} {cs:Array Value} {z:Nat×Nat} (hk:W.heap[k]? =some (.cells cs e z)) (E:B≤k) (I:¬fp k) (hm:Md (fun q=>q=k) W W'):a b pre fp W':=
 h.st _ _ _ _ _ _ G hm fun q J=>by subst J; exact ⟨E,I,_,_,_,hk⟩
theorem Yc.Mo {α:Type} {P:Program} {l B:Nat} {A:α→Array Value} {xs:List α} {a i:World→Prop} {q:Bool→List α→(Nat→Prop)→World→Prop} (h:Yc P l B A xs a q) (E:∀ W,a W→i W):Yc P l B A xs i q:=
 ⟨fun b pre fp W C=>E W (h.cap b pre fp W C),h.lt,h.st,h.yl⟩
def xg {α:Type} (P:Program) (A:Nat) (C:Array Value) (q:α→Array Value) (xs:List α) (i:World→Prop):Prop :=
 ∀ (l:Nat) (a:Bool→List α→(Nat→Prop)→World→Prop) (W:World),a true [] (fun _=>False) W→Yc P l W.heap.size q xs i a→
   Calls P A (#[.func (.yield l) #[] #[]]++C) W fun e W'=>(∃ v,e= .returned v)∧∃ b pre fp,a b pre fp W'∧pre <+:xs∧(b=true→pre=xs)
def XE (id B:Nat) (fp:Nat→Prop) (W:World) (R:(Nat→Prop)→World→Prop) (X:Bool→(Nat→Prop)→World→Prop):Exit→(Nat→Value)→World→Prop
 | .normal,_,w=>eV W w∧∃ fp',Gw B fp W fp' w∧R fp' w
 | .exit i,_,w=>i=id∧eV W w∧∃ fp',Gw B fp W fp' w∧X false fp' w
 | .ret,_,w=>eV W w∧∃ fp',Gw B fp W fp' w∧X true fp' w
 | _,_,_=>False
def Cx (id:Nat):Bool→Code
 | true => .ret
 | false => .exit id
theorem An {α:Type} {f:α→List Value} {e:Nat} (x:α) (b:Nat) (W W':World) (F:Nat→Prop) (h:W.heap[b]? =some (.cells (f x).toArray e (0,0))) (hm:Md F W W') (a:∀ k,F k→∀ cur e z,W.heap[k]?≠some (.cells cur e z)):W'.heap[b]? =some (.cells (f x).toArray e (0,0)):=by
 rw [hm.cH b (dB.1 h).1 (fun hk=>a b hk _ _ _ h)]; exact h
def JX {α:Type} (a:List α→(Nat→Prop)→World→Prop) (X:Bool→List α→(Nat→Prop)→World→Prop) (S:World→Prop) (T:Bool→World→Prop):Bool→List α→(Nat→Prop)→World→Prop
 | true,pre,fp,W=>a pre fp W∧S W
 | false,pre,fp,W=> ∃ r,X r pre fp W∧T r W
theorem Dn {α:Type} {P:Program} {id n:Nat} {Y:List Deferred} {g:Operand} {ps:Array Tmp} {aq body:Code} {Fx:List Nat} {σ:Nat→Value} {w:World} {B:Exit→Act→World→Prop} {ai:Nat} {aj:Array Value}
 (ae:α→Array Value) (xs:List α) (av:World→Prop) (q:List α→(Nat→Prop)→World→Prop) (X:Bool→List α→(Nat→Prop)→World→Prop) (aT:ev ⟨n,Y,Fx,none⟩ σ g= .func (.func ai) #[] aj) (aQ:bo P ai) (a1:∀ x,(ae x).size=ps.size)
 (aU:xg P ai aj ae xs av) (aK:q [] (fun _=>False) w) (az:∀ pre fp W,q pre fp W→av W∧∀ k,fp k→k < W.heap.size) (aA:∀ r pre fp W,X r pre fp W→av W∧∀ k,fp k→k < W.heap.size) (Z:z6 w.heap.size q) (am:∀ r,z6 w.heap.size (X r)) (A:α→Nat→World→Prop) (aI:∀ x b W W' (F:Nat→Prop),A x b W→Md F W W'→(∀ k,F k→∀ cur e z,W.heap[k]?≠some (.cells cur e z))→A x b W') (aF:α→Nat→Nat→Value)
 (aO:∀ (l:Nat) (x:α) (W:World) (K:(Nat→Value)→World→Prop),(∀ b W',Wk W W'→A x b W'→K (aF x b) W')→dU P ⟨n,[],[],some l⟩ aq (lS K fun _ _ _=>False) ((ps.toList.zip (ae x).toList).foldl (fun s p=>dD s p.1 p.2) σ) W)
 (aP:∀ (l:Nat) (pre:List α) (x:α) (rest:List α) (fp:Nat→Prop) (b:Nat) (W:World),xs=pre++x::rest→q pre fp W→A x b W→dU P ⟨n,[],[],some l⟩ body (XE id w.heap.size fp W (q<|pre++ [x]) fun r=>X r<|pre++ [x]) (aF x b) W)
 (hd:∀ (D:Nat) (W:World),w.heap.size≤D→(∃ fp,q xs fp W)→W.heap[D]? =some (.deferred<|some [])→qb ⟨n,{target:= .collected D,args:= #[]} ::Y,Fx,none⟩ B .normal σ W)
 (a4:∀ (D:Nat) (W:World) (pre:List α),w.heap.size≤D→pre <+:xs→(∃ fp,X false pre fp W)→W.heap[D]? =some (.deferred<|some [])→qb ⟨n,{target:= .collected D,args:= #[]} ::Y,Fx,none⟩ B .normal σ W)
 (a5:∀ (D:Nat) (W:World) (pre:List α),w.heap.size≤D→pre <+:xs→(∃ fp,X true pre fp W)→W.heap[D]? =some (.deferred<|some [])→qb ⟨n,{target:= .collected D,args:= #[]} ::Y,Fx,none⟩ B .ret σ W):
 k3 P ⟨n,Y,Fx,none⟩ (.block id<|.rangeFunc g ps aq body) B σ w:=by
 refine wpIn_block<|wpIn_rangeFunc ?_
 intro fn _
 obtain ⟨rc,O⟩:∃ rc:LoopState→Option Code→Loop,rc=fun st a6=> {state:=st,pending:=a6,fn,tmps:=(act ⟨n,Y,Fx,none⟩ σ).tmps,params:=ps,assign:=aq,body,defers:=w.heap.size} :=⟨_,rfl⟩
 obtain ⟨G,al⟩:∃ G,(w.alloc<|.deferred<|some []).alloc (.loop<|rc .ready none)=G:=⟨_,rfl⟩
 have aN:G.heap[w.heap.size+1]? =some (.loop<|rc .ready none):=by
  rw [← al]; have :=zM (w.alloc<|.deferred<|some []) (.loop<|rc .ready none); rwa [Nq] at this
 have aM:G.heap[w.heap.size]? =some (.deferred<|some []):=by
  rw [← al]; exact (Below.heap_alloc _ _ _<|by simp).trans<|zM w _
 have a8:G.heap.size=w.heap.size+2:=by rw [← al]; simp
 have hn:∀ (W:World) (o:Obj),Wk W (W.alloc o):=fun W o=>(CV W o).md
 have aL:q [] (fun _=>False) G:=by rw [← al]; exact Z _ _ _ _ _ (Z _ _ _ _ _ aK (hn _ _) fun _ h=>h.elim) (hn _ _) fun _ h=>h.elim
 have aR:(act ⟨n,Y,Fx,none⟩ σ).eval g= .func (.func ai) #[] aj:=by rw [hU]; exact aT
 refine ⟨w.heap.size+1,[{target:= .collected w.heap.size,args:= #[]}],G,{target:= .fn (.func ai) aj,args:= #[.func (.yield<|w.heap.size+1) #[] #[]]},G,ai,
  #[.func (.yield<|w.heap.size+1) #[] #[]]++aj,G,?_,?_,fun _ _=>trivial,?_,fun aH=>(by cases aH),?_⟩
 · rw [← al,O]; exact run_enterLoop_outer _ _ _ _ _
 · simp only [resolve,aR]
   simp [go_sem]
 · have :=aQ (#[.func (.yield<|w.heap.size+1) #[] #[]]++aj) G
   simp [invoke,go_sem,this]
 ·
  have ah:∀ (q:List α→(Nat→Prop)→World→Prop),z6 w.heap.size q→∀ (pre:List α) (fp:Nat→Prop) (W:World) (o ak:Obj),q pre fp W→W.heap[w.heap.size+1]? =some o→(∀ cur e z,o≠.cells cur e z)→q pre fp (W.putObj (w.heap.size+1) ak):=fun q Z pre fp W o ak h1 h2 h3=>
   Z _ _ _ _ _ h1 (mF W _ ak) fun k hk=>⟨ab,fun cur e z h4=>by subst hk; rw [h2] at h4; exact absurd (rk h4)<|h3 _ _ _⟩
  have aB:∀ (fp:Nat→Prop) (W:World) (o ak:Obj),W.heap[w.heap.size+1]? =some o→(∀ cur e z,o≠.cells cur e z)→Gw w.heap.size fp W fp (W.putObj (w.heap.size+1) ak):=fun fp W o ak h2 h3=>
   ⟨fun _ h=> .inl h,fun k cs e z _ _ hk=>by
    rw [nB (fun h=>by subst h; rw [h2] at hk; exact h3 _ _ _<|rk hk)]; exact hk,by simp [Np]⟩
  have ax:∀ {F:Nat→Prop} {A C:World},Md F A C→∀ (k:Nat) (o:Obj),A.heap[k]? =some o→¬F k→C.heap[k]? =some o:=fun hm k o ao aS=>by
   rw [hm.cH k (dB.1 ao).1 aS]; exact ao
  refine callsIn_wide.2 (lE (aU (w.heap.size+1)
   (JX q X (fun W=>W.heap[w.heap.size+1]? =some (.loop<|rc .ready none)∧W.heap[w.heap.size]? =some (.deferred<|some [])) fun r W=>W.heap[w.heap.size+1]? =some (.loop<|rc .done<|some<|Cx id r)∧W.heap[w.heap.size]? =some (.deferred<|some []))
   G ⟨aL,aN,aM⟩ ⟨fun b pre fp W h=>match b,h with
    | true,h=>(az pre fp W h.1).1
    | false,⟨r,h,_⟩=>(aA r pre fp W h).1,fun b pre fp W h=>match b,h with
    | true,h=>(az pre fp W h.1).2
    | false,⟨r,h,_⟩=>(aA r pre fp W h).2,?_,?_⟩) ?_)
  · intro b pre fp A C F h hm aw
    have ay:∀ k,F k→w.heap.size≤k∧∀ cur e z,A.heap[k]? =some (.cells cur e z)→¬fp k:=fun k hk=>⟨by have :=(aw k hk).1; omega,fun _ _ _ _=>(aw k hk).2.1⟩
    have J:∀ (k:Nat) (o:Obj),A.heap[k]? =some o→(∀ cur e z,o≠.cells cur e z)→C.heap[k]? =some o:=fun k o ao aZ=>ax hm k o ao fun hk=>by
     obtain ⟨cs,e,z,h5⟩:=(aw k hk).2.2; rw [ao] at h5; exact aZ _ _ _<|rk h5
    cases b with
    | true =>exact ⟨Z _ _ _ _ _ h.1 hm ay,J _ _ h.2.1 (fun _ _ _ h=>by cases h),J _ _ h.2.2 fun _ _ _ h=>by cases h⟩
    | false =>
      obtain ⟨r,h1,h2,h3⟩:=h
      exact ⟨r,am r _ _ _ _ _ h1 hm ay,J _ _ h2 (fun _ _ _ h=>by cases h),J _ _ h3 fun _ _ _ h=>by cases h⟩
  · rintro pre x rest fp W a3 ⟨hi,E,hk⟩
    have aD:=run_yield (P:=P) (args:=ae x) E<|by rw [O]; exact a1 x
    rw [O] at aD
    refine ⟨fn,_,aq,body,aD,roundIn_of_wpIn (F:=iQ) trivial ?_⟩
    have a2:((ps.zip<|ae x).foldl (fun tmps (p:Tmp×Value)=>tmps.setIfInBounds p.1 p.2) (act ⟨n,Y,Fx,none⟩ σ).tmps)=(act ⟨n,[],[],some<|w.heap.size+1⟩<|(ps.toList.zip (ae x).toList).foldl (fun s p=>dD s p.1 p.2) σ).tmps:=by
     rw [← MK,MO]
     exact ER ⟨n,[],[],some<|w.heap.size+1⟩ _ σ
    have h1:=aO (w.heap.size+1) x W (fun U W'=> ∃ aE,(M6<|w.heap.size+1).run P W'= .ok () aE∧
     body.wpIn (iQ.inRound<|w.heap.size+1) 0 P (roundPost P (w.heap.size+1) fun e W'=> ∃ b,e= .returned (.bool b)∧∃ fp',JX q X (fun W=>W.heap[w.heap.size+1]? =some (.loop<|rc .ready none)∧W.heap[w.heap.size]? =some (.deferred<|some [])) (fun r W=>W.heap[w.heap.size+1]? =some (.loop<|rc .done<|some<|Cx id r)∧W.heap[w.heap.size]? =some (.deferred<|some [])) b (pre++ [x]) fp' W'∧Gw G.heap.size fp W fp' W') (act ⟨n,[],[],some<|w.heap.size+1⟩ U) aE) ?_
    · unfold dU at h1
      have aG:({tmps:=(ps.zip<|ae x).foldl (fun tmps (p:Tmp×Value)=>tmps.setIfInBounds p.1 p.2) (act ⟨n,Y,Fx,none⟩ σ).tmps,defers:= []} :Act)=act ⟨n,[],[],some<|w.heap.size+1⟩ ((ps.toList.zip (ae x).toList).foldl (fun s p=>dD s p.1 p.2) σ):=by rw [a2]; rfl
      rw [aG]
      refine wpIn_mono h1 ?_
      intro e a w' M
      cases e with
      | normal=>obtain ⟨U,rfl,ac⟩:=M; exact ac
      | panic c=>obtain ⟨U,rfl,ac⟩:=M; exact ac U fun _ _=>rfl
      | outgrown=>exact M.elim
      | _=>obtain ⟨U,rfl,ac⟩:=M; exact ac
    intro b V ar aJ
    have hi:=Z _ _ _ _ _ hi ar fun _ h=>h.elim
    have E:=ax ar _ _ E fun h=>h
    have hk:=ax ar _ _ hk fun h=>h
    have aY:w.heap.size+1 < V.heap.size:=(dB.1 E).1
    refine ⟨_,run_beginRound E (by rw [O]),?_⟩
    have aX:(V.putObj (w.heap.size+1)<|.loop {rc .ready none with state:= .busy}).heap[w.heap.size+1]? =some (.loop {rc .ready none with state:= .busy}):=zN aY
    have aV:(V.putObj (w.heap.size+1)<|.loop {rc .ready none with state:= .busy}).heap[w.heap.size]? =some (.deferred<|some []):=(nB ab).trans hk
    have a0:=aB fp V _ (.loop {rc .ready none with state:= .busy}) E fun _ _ _ h=>by cases h
    have h2:=aP (w.heap.size+1) pre x rest fp b _ a3 (ah q Z _ _ _ _ (.loop {rc .ready none with state:= .busy}) hi E fun _ _ _ h=>by cases h)<|aI _ _ _ _ _ aJ (mF V (w.heap.size+1) _) fun k hk cur e z h4=>by subst hk; rw [E] at h4; cases h4
    unfold dU at h2
    refine wpIn_mono h2 ?_
    have fin:∀ (j:Option Code) (fp':Nat→Prop) (I:World),eV (V.putObj (w.heap.size+1)<|.loop {rc .ready none with state:= .busy}) I→Gw w.heap.size fp (V.putObj (w.heap.size+1)<|.loop {rc .ready none with state:= .busy}) fp' I→
     (Instr.endRound (w.heap.size+1) j).run P I= .ok (.bool j.isNone) (I.putObj (w.heap.size+1)<|.loop<|rc (if j.isNone then .ready else .done) j)∧
     I.heap[w.heap.size+1]? =some (.loop {rc .ready none with state:= .busy})∧
     (I.putObj (w.heap.size+1)<|.loop<|rc (if j.isNone then .ready else .done) j).heap[w.heap.size+1]? =some (.loop<|rc (if j.isNone then .ready else .done) j)∧
     (I.putObj (w.heap.size+1)<|.loop<|rc (if j.isNone then .ready else .done) j).heap[w.heap.size]? =some (.deferred<|some [])∧
     Gw G.heap.size fp W fp' (I.putObj (w.heap.size+1)<|.loop<|rc (if j.isNone then .ready else .done) j):=fun j fp' I J ag=>by
     have au:=J _ _ aX fun _ _ _ h=>by cases h
     have aW:=J _ _ aV fun _ _ _ h=>by cases h
     have aC:=run_endRound (P:=P) j au
     refine ⟨?_,au,zN (dB.1 au).1,(nB ab).trans aW,((((Gw.wk ar).trans a0).trans ag).trans<|aB fp' _ _ _ au fun _ _ _ h=>by cases h).mono ab⟩
     rw [O] at aC ⊢
     exact aC
    intro e a I M
    cases e with
    | normal=>
      obtain ⟨U,rfl,J,fp',ag,an⟩:=M
      obtain ⟨f1,f2,f3,f4,f5⟩:=fin none fp' I J ag
      exact ⟨_,_,f1,true,aa,fp',⟨ah q Z _ _ _ _ _ an f2 (fun _ _ _ h=>by cases h),f3,f4⟩,f5⟩
    | ret=>
      obtain ⟨U,rfl,J,fp',ag,an⟩:=M
      obtain ⟨f1,f2,f3,f4,f5⟩:=fin (some .ret) fp' I J ag
      exact ⟨_,_,f1,false,aa,fp',⟨true,ah (X true) (am true) _ _ _ _ _ an f2 (fun _ _ _ h=>by cases h),f3,f4⟩,f5⟩
    | exit i=>
      obtain ⟨U,rfl,rfl,J,fp',ag,an⟩:=M
      obtain ⟨f1,f2,f3,f4,f5⟩:=fin (some<|.exit i) fp' I J ag
      exact ⟨_,_,f1,false,aa,fp',⟨false,ah (X false) (am false) _ _ _ _ _ an f2 (fun _ _ _ h=>by cases h),f3,f4⟩,f5⟩
    | panic c=>obtain ⟨U,rfl,ac⟩:=M; exact (ac U fun _ _=>rfl).elim
    | outgrown=>exact M.elim
    | goto t=>obtain ⟨U,rfl,ac⟩:=M; exact ac.elim
  · rintro e a7 ⟨⟨v,rfl⟩,b,pre,fp,hj,hpre,hb1⟩
    cases b with
    | true =>
      obtain ⟨hi,E,hk⟩:=hj
      obtain rfl :=hb1 rfl
      have ap:=run_endLoop (P:=P) E<|by rw [O]; simp
      rw [O] at ap
      refine ⟨none,_,ap,?_⟩
      rw [O] at E
      exact hd w.heap.size _ (cD _) ⟨fp,ah q Z _ _ _ _ _ hi E fun _ _ _ h=>by cases h⟩<|(nB ab).trans hk
    | false =>
      obtain ⟨r,hi,E,hk⟩:=hj
      have ap:=run_endLoop (P:=P) E<|by rw [O]; simp
      rw [O] at ap
      refine ⟨some (Cx id r),_,ap,?_⟩
      rw [O] at E
      cases r with
      | true =>
        refine wpIn_ret ?_
        exact a5 w.heap.size _ pre (cD _) hpre ⟨fp,ah (X true) (am true) _ _ _ _ _ hi E fun _ _ _ h=>by cases h⟩<|(nB ab).trans hk
      | false =>
        refine wpIn_exit ?_
        unfold zD
        simp only [if_true]
        exact a4 w.heap.size _ pre (cD _) hpre ⟨fp,ah (X false) (am false) _ _ _ _ _ hi E fun _ _ _ h=>by cases h⟩<|(nB ab).trans hk
section
variable {P:Program} {N:Fm} {ops:Array Oper} {Q:Exit→(Nat→Value)→World→Prop} {rest:List Oper} {σ:Nat→Value} {w:World} {d':Option Nat} {d:Nat} {op:Op} {ty:TypeId} {pos :String} {af:Array Edge} {v:Value}
end
section
variable {P:Program} {n:Nat} {F:List Nat} {σ:Nat→Value} {w:World} {fn:Func} {R:Value→World→Prop}
theorem QV {b off D:Nat} {o A:Obj} {v:Value} (a:Hb.aR w.heap b off =some v) (i:w.heap[D]? =some o) (hn:∀ cur e z,o≠.cells cur e z):Hb.aR (w.putObj D A).heap b off =some v:=by
 have q:b≠D:=fun h=>by
  subst h
  unfold Hb.aR at a
  rw [i] at a
  cases o with
  | cells c e z=>exact hn _ _ _ rfl
  | _=>cases a
 unfold Hb.aR at a ⊢
 rw [nB q]; exact a
end
def BD (P:Program) (s f:Nat):Option Nat:=
 match P.underlying s with
 | some (.struct fs)=>match fs[f]? with
   | some fd=>if dF P fd.type=some none then some fd.offset else none
   | none=>none
 | _=>none
theorem XX {P:Program} {t:Nat} (hu:dF P t=some none) (w:World):(isAgg t).run P w= .ok false w:=by
 unfold dF at hu
 cases hd:P.underlying t with
 | none=>rw [hd] at hu; cases hu
 | some d=>
   rw [hd] at hu
   cases d <;> first
    | (simp only [pj] at hu; obtain ⟨_,_,h⟩:=hu; cases h; done)
    | simp [isAgg,eA hd]
theorem Tm {P:Program} {N:Fm} {σ:Nat→Value} {w:World} {dst:Option Nat} {ty:TypeId} {pos :String} {af:Array Edge} {g:Option (Nat×Bool)} {x:Operand} {s f n:Nat} {cs:Array Value} {v:Value} (a:BD P s f=some n) (C:ev N σ x= .agg cs) (A:cs[n]? =some v):
 (execOp (ev N σ) ⟨dst,.field s x f,ty,pos,af,g⟩).run P w= .ok (.value v) w:=by
 unfold BD at a
 split at a
 · rename_i fs hu
   split at a
   · rename_i fd q
     split at a
     · rename_i i
       cases a
       simp [execOp,M7,eA hu,q,C,asAgg,part,XX i,A]
     · cases a
   · cases a
 · cases a
section
variable {P:Program} {ops:Array Oper} {Q:Exit→Act→World→Prop} {S:World→Prop} {md:sn}
theorem Mz {i:Nat} {o:Oper} {v:Value} {a:Act} (hi:ops[i]? =some o) (C:YieldsIf P ops S o v a) {K:Act→World→Prop} {w:World} (q:S w) (h:K (a.put o.dst v) w):wpOpIn iQ 0 P ops Q i K a w:=by
 unfold wpOpIn
 simp only [hi]
 rcases C with ⟨hw,A⟩ | ⟨hw,rfl⟩
 · rw [if_pos hw]
   refine ⟨fun _ _=>trivial,?_⟩
   rw [show iQ.round=none from rfl,wv,A w q]
   exact h
 · rw [if_neg (by rw [hw]; exact eo)]; exact ⟨fun _ _=>trivial,h⟩
theorem ZP {j:Nat} {i A:Oper} {v:Value} (I:ops[j]? =some A) (G:i.apart ops A=true)
 (J:∀ cs b,i.op≠.select cs b) (M:∀ cs b,A.op≠.select cs b)
 (C:∀ c a w,Q (.panic c) (a.put i.dst v) w→Q (.panic c) a w) {K:Act→World→Prop} {a:Act} {w:World}
 (q:YieldsIf P ops S i v a) (h:wpOpIn iQ 0 P ops Q j K (a.put i.dst v) w):
 wpOpIn iQ 0 P ops Q j (fun E w'=>YieldsIf P ops S i v E∧K (E.put i.dst v) w') a w:=by
 obtain ⟨h1,h2,h3⟩:=Oper.apart_spec G
 have cH:∀ (a:Act),YieldsIf P ops S i v a→∀ u,YieldsIf P ops S i v (a.put A.dst u):=fun a q u=>
  q.of_same (execOp_put i J a A.dst u h3) (wanted_put i a A.dst u h3)
 have O:∀ d,YieldsIf P ops S i v {a with defers:=d::a.defers} :=fun d=>q.of_same rfl rfl
 unfold wpOpIn at*
 simp only [I] at*
 rw [wanted_put A a i.dst v h1] at h
 split
 · rename_i hw
   simp only [hw,if_true] at h
   unfold Oper.wpIn at*
   refine ⟨fun _ _=>trivial,?_⟩
   have h:=h.2
   rw [show iQ.round=none from rfl,wv,execOp_put A M a i.dst v h1] at h
   rw [show iQ.round=none from rfl,wv]
   generalize (execOp a.eval A).run P w=r at*
   cases r with
   | ok x w'=>
     cases x <;> simp only [q4] at h ⊢
     case value u=>exact ⟨cH a q u,by rw [← sh a v u h2]; exact h⟩
     case skip =>exact ⟨cH a q _,by rw [← sh a v undef h2]; exact h⟩
     case defer d=>
      refine ⟨cH _ (O d) _,?_⟩
      rw [← sh _ v undef h2,← Act.put_defers]
      exact h
     case enter f args=>
      refine ⟨h.1,Ed h.2 fun e w'' he=> ?_⟩
      cases e with
      | returned u=>exact ⟨cH a q u,by rw [← sh a v u h2]; exact he⟩
      | panicked c=>exact C _ _ _ he
      | outgrown=>exact he
     case row row args=>exact ⟨h.1,Et h.2 fun u w'' he=>⟨cH a q u,by rw [← sh a v u h2]; exact he⟩⟩
     case round l f tmps assign body=>
      refine ⟨h.1,Er h.2 fun e w'' he=> ?_⟩
      cases e with
      | returned u=>exact ⟨cH a q u,by rw [← sh a v u h2]; exact he⟩
      | panicked c=>exact C _ _ _ he
      | outgrown=>exact he
   | halt x w'=>
     cases x <;> simp only [q4] at h ⊢
     case panic u=>exact C _ _ _ h
 · rename_i hw
   simp only [hw] at h
   exact ⟨fun _ _=>trivial,cH a q _,by rw [← sh a v undef h2]; exact h.2⟩
def p6 (P:Program) (md:sn) (ops:Array Oper) (Q:Exit→Act→World→Prop) (S:World→Prop):Nat→Array Bool→Act→World→Prop
 | 0,bg,a,w=>js md ops bg= []∧Q .normal a w
 | fuel+1,bg,a,w=>
   (js md ops bg= []→Q .normal a w)∧
   ∀ i∈js md ops bg,wpOpIn iQ 0 P ops Q i (fun q w'=>S w'∧p6 P md ops Q S fuel (bg.setIfInBounds i true) q w') a w
theorem Ms:∀ (fuel:Nat) (bg:Array Bool) (a:Act) (w:World),p6 P md ops Q S fuel bg a w→wpAnyIn iQ 0 P md ops Q fuel bg a w
 | 0,_,_,_,h=>h
 | fuel+1,_,_,_,h=>⟨h.1,fun i hi=>wpOpIn_mono (fun q w' A=>Ms fuel _ q w' A.2)<|h.2 i hi⟩
theorem ZJ {i:Nat} {C:Oper} {v:Value} (hi:ops[i]? =some C) (aa:∀ (j:Nat) (o:Oper) cs b,ops[j]? =some o→o.op≠.select cs b)
 (ae:∀ c a w,Q (.panic c) (a.put C.dst v) w→Q (.panic c) a w):
 ∀ (fuel:Nat) (bg:Array Bool) (a:Act) (w:World),
   (∀ j E,ops[j]? =some E→j≠i→bg.getD j true =false→(∀ e∈E.after,j4 md e=true→e.on≠i)→C.apart ops E=true)→
   i∈js md ops bg→YieldsIf P ops S C v a→S w→
   p6 P md ops Q S fuel (bg.setIfInBounds i true) (a.put C.dst v) w→p6 P md ops Q S (fuel+1) bg a w:=by
 intro fuel
 induction fuel with
 | zero=>
   intro bg a w _ A J G H
   refine ⟨fun h=>(by rw [h] at A; cases A),fun j I=> ?_⟩
   by_cases q:j=i
   · subst q; exact Mz hi J G ⟨G,H⟩
   · have :=ready_mono I q
     rw [H.1] at this
     cases this
 | succ fuel am=>
   intro bg a w V A J G H
   refine ⟨fun h=>(by rw [h] at A; cases A),fun j I=> ?_⟩
   by_cases q:j=i
   · subst q; exact Mz hi J G ⟨G,H⟩
   · have h1:=H.2 j<|ready_mono I q
     obtain ⟨Z,E,O,ag⟩:=mem_ready.1 I
     have al:∀ e∈E.after,j4 md e=true→e.on≠i:=fun e he ah heq=>by
      have h1:=ag e he ah
      have U:=(mem_ready.1 A).1
      rw [heq] at h1
      rcases Nat.lt_or_ge i bg.size with M | M
      · simp [M] at U h1; rw [U] at h1; cases h1
      · simp [Array.getElem?_eq_none M] at h1
     have h2:=ZP O (V j E O q Z al) (fun cs b=>aa i C cs b hi) (fun cs b=>aa j E cs b O) ae J h1
     have ai:∀ k ok,ops[k]? =some ok→k≠i→(bg.setIfInBounds j true).getD k true =false→
      (∀ e∈ok.after,j4 md e=true→e.on≠i)→C.apart ops ok=true :=fun k ok hk aj ab ak=>by
      refine V k ok hk aj ?_ ak
      by_cases Y:j=k
      · subst Y; exact Z
      · rw [getD_set_ne true Y] at ab; exact ab
     refine wpOpIn_mono (fun ac w' h3=>⟨h3.2.1,am (bg.setIfInBounds j true) ac w' ai (ready_mono A<|Ne.symm q) h3.1 h3.2.1 ?_⟩) h2
     rw [Array.setIfInBounds_comm _ _ q]
     exact h3.2.2
theorem DX {i:Nat} {q:Oper} {v:Value} {fuel:Nat} {bg:Array Bool} {a:Act} {w:World} (hi:ops[i]? =some q)
 (hs:Region.noSelect ops=true) (E:Region.free md ops bg i=true) (G:(js md ops bg).contains i=true)
 (A:∀ c a w,Q (.panic c) (a.put q.dst v) w→Q (.panic c) a w) (I:YieldsIf P ops S q v a) (C:S w)
 (h:p6 P md ops Q S fuel (bg.setIfInBounds i true) (a.put q.dst v) w):p6 P md ops Q S (fuel+1) bg a w:=
 ZJ hi (Region.noSelect_spec hs) A fuel bg a w (Region.free_spec hi E) (by simpa using G) I C h
theorem Mt {i:Nat} {fuel:Nat} {bg:Array Bool} {a:Act} {w:World} (G:lz ops bg i=true)
 (h:wpOpIn iQ 0 P ops Q i (fun E w'=>S w'∧p6 P .any ops Q S fuel (bg.setIfInBounds i true) E w') a w):p6 P .any ops Q S (fuel+1) bg a w:=by
 have C:js .any ops bg= [i]:=by simpa [lz] using G
 exact ⟨fun q=>(by rw [C] at q; cases q),fun j A=>by rw [C] at A; obtain rfl :=j5.1 A; exact h⟩
end
def lD (P:Program) (N:Fm) (ops:Array Oper) (Q:Exit→(Nat→Value)→World→Prop) (S:World→Prop) (fuel:Nat) (bg:Array Bool) (σ:Nat→Value) (w:World):Prop :=
 p6 P .any ops (lift N Q) S fuel bg (act N σ) w
section
variable {P:Program} {N:Fm} {ops:Array Oper} {Q:Exit→(Nat→Value)→World→Prop} {σ:Nat→Value} {w:World} {d':Option Nat} {d:Nat} {op:Op} {ty:TypeId} {pos :String} {af:Array Edge} {v:Value}
variable {S:World→Prop} {fuel:Nat} {bg:Array Bool}
theorem MA {id:Nat} {l:List Oper} (S:World→Prop) (a:N.r=none) (hm:P.follows .mixedOrders=true) (i:S w.drew) (h:lD P N l.toArray Q S l.length (tZ l.length false) σ w.drew):dU P N (.region id l.toArray true) Q σ w:=by
 unfold dU
 rw [a]
 exact wpIn_region_any hm<|Ms _ _ _ _<|by rw [ou]; exact h
theorem yp (i:Nat) (hi:ops[i]? =some ⟨some d,op,ty,pos,af,none⟩) (q:jb N.F ops bg i=true)
 (C:∀ w,S w→(execOp (ev N σ) ⟨some d,op,ty,pos,af,none⟩).run P w= .ok (.value v) w) (A:S w)
 (k:lD P N ops Q S fuel (bg.setIfInBounds i true) (dD σ d v) w):lD P N ops Q S (fuel+1) bg σ w:=by
 simp only [jb,gU] at q
 refine DX hi q.1.1.1 q.1.1.2 q.1.2 (fun c a w=>oL (by have :=q.2; rwa [hi] at this) c a w) (.inl ⟨jQ _ rfl _,fun w A=> ?_⟩) A ?_ (v:=v)
 · rw [hU]; exact C w A
 · rw [jJ]; exact k
theorem ny (i:Nat) {j t:Nat} {want:Bool} (hi:ops[i]? =some ⟨some d,op,ty,pos,af,some (j,want)⟩) (q:jb N.F ops bg i=true)
 (C:jW ops j=some t) (E:gG t N.n=true) (G:σ t= .bool want)
 (I:∀ w,S w→(execOp (ev N σ) ⟨some d,op,ty,pos,af,some (j,want)⟩).run P w= .ok (.value v) w) (A:S w)
 (k:lD P N ops Q S fuel (bg.setIfInBounds i true) (dD σ d v) w):lD P N ops Q S (fuel+1) bg σ w:=by
 simp only [jb,gU] at q
 refine DX hi q.1.1.1 q.1.1.2 q.1.2 (fun c a w=>oL (by have :=q.2; rwa [hi] at this) c a w) (.inl ⟨by rw [p4 aa C E G]; cases want <;> rfl,fun w A=> ?_⟩) A ?_ (v:=v)
 · rw [hU]; exact I w A
 · rw [jJ]; exact k
theorem mj (i:Nat) {j t:Nat} {want b:Bool} (hi:ops[i]? =some ⟨some d,op,ty,pos,af,some (j,want)⟩) (q:jb N.F ops bg i=true)
 (E:jW ops j=some t) (G:gG t N.n=true) (I:σ t= .bool b) (C:(b==want)=false) (A:S w)
 (k:lD P N ops Q S fuel (bg.setIfInBounds i true) (dD σ d undef) w):lD P N ops Q S (fuel+1) bg σ w:=by
 simp only [jb,gU] at q
 refine DX hi q.1.1.1 q.1.1.2 q.1.2 (fun c a w=>oL (by have :=q.2; rwa [hi] at this) c a w) (.inr ⟨by rw [p4 aa E G I,C],aa⟩) A ?_ (v:=undef)
 rw [jJ]; exact k
theorem ZM {Q:Exit→Act→World→Prop} {o:Oper} {K:(Nat→Value)→World→Prop} {A:Act→World→Prop} (h:dV P N o σ w K) (hk:∀ σ w,K σ w→A (act N σ) w):o.wpIn iQ 0 P (act N σ) w A Q:=by
 refine ⟨fun _ _=>trivial,?_⟩
 rw [show iQ.round=none from rfl,wv]
 unfold dV j0 at h
 generalize (execOp (act N σ).eval o).run P w=x at h ⊢
 cases x with
 | ok n w'=>
   cases n <;> simp only [k4,q4] at h ⊢ <;>
    first
     | (obtain ⟨C,i,a⟩:=h; rw [i]; exact hk _ _ a)
     | (refine ⟨fun q=>(by cases q),Ed (callsIn_wide.2 h) fun e w'' he=> ?_⟩
        cases e with
        | returned v=>obtain ⟨C,i,a⟩:=he; simp only; rw [i]; exact hk _ _ a
        | panicked c=>exact he.elim
        | outgrown=>obtain ⟨_,_,E⟩:=he; exact E.elim)
     | (refine ⟨fun q=>(by cases q),Et (BC (r:=none) h) fun v w'' he=> ?_⟩
        obtain ⟨C,i,a⟩:=he; rw [i]; exact hk _ _ a)
 | halt x w'=>cases x <;> simp only [k4] at h
theorem ye (i:Nat) (hi:ops[i]? =some ⟨d',op,ty,pos,af,none⟩) (a:lz ops bg i=true)
 (h:dV P N ⟨d',op,ty,pos,af,none⟩ σ w (fun σ w=>S w∧lD P N ops Q S fuel (bg.setIfInBounds i true) σ w)):lD P N ops Q S (fuel+1) bg σ w:=by
 refine Mt a ?_
 unfold wpOpIn
 simp only [hi]
 rw [if_pos (jQ _ rfl _)]
 exact ZM h fun _ _ hk=>hk
theorem MB {l:Nat} {fo:Operand} {args:Array Operand} {q:Array TypeId} {R:Bool→World→Prop} (i:Nat) {j t:Nat} {want:Bool} {L:List Value} (hi:ops[i]? =some ⟨some d,.call ⟨.value fo,args,q⟩,ty,pos,af,some (j,want)⟩) (J:lz ops bg i=true)
 (I:jW ops j=some t) (O:gG t N.n=true) (U:σ t= .bool want) (G:ev N σ fo= .func (.yield l) #[] #[]) (C:args.toList.map (ev N σ)=L)
 (Y:YieldAt iQ 0 P l L.toArray w fun e W'=> ∃ b,e= .returned (.bool b)∧R b W') (k:∀ b W',R b W'→S W'∧lD P N ops Q S fuel (bg.setIfInBounds i true) (dD σ d<|.bool b) W'):
 lD P N ops Q S (fuel+1) bg σ w:=by
 refine Mt J ?_
 unfold wpOpIn
 simp only [hi]
 rw [if_pos (by rw [p4 rfl I O U]; cases want <;> rfl)]
 obtain ⟨fn,tmps,a,b,M,E⟩:=Y
 refine ⟨fun _ _=>trivial,?_⟩
 rw [show iQ.round=none from rfl,wv,hU]
 have hm:args.map (ev N σ)=L.toArray:=by rw [← C,← nz]
 have V:(execOp (ev N σ) ⟨some d,.call ⟨.value fo,args,q⟩,ty,pos,af,some (j,want)⟩).run P w= .ok (.round l fn tmps a b) w:=by
  simp [execOp,resolve,G,qY,invoke,hm,M]
 rw [V]
 simp only [q4]
 refine ⟨fun A=>(by cases A),Er E ?_⟩
 rintro e W' ⟨c,rfl,hw⟩
 simp only
 rw [jJ]
 exact k c W' hw
theorem yn (q:(js .any ops bg).isEmpty=true) (h:Q .normal σ w):lD P N ops Q S fuel bg σ w:=by
 have a:js .any ops bg= []:=by simpa using q
 cases fuel with
 | zero=>exact ⟨a,σ,rfl,h⟩
 | succ n=>exact ⟨fun _=>⟨σ,rfl,h⟩,fun i hi=>by rw [a] at hi; cases hi⟩
theorem My {t:Nat} {b:Bool} (h:σ t= .bool b) (i:b=true→lD P N ops Q S fuel bg (dD σ t<|.bool true) w) (a:b=false→lD P N ops Q S fuel bg (dD σ t<|.bool false) w):lD P N ops Q S fuel bg σ w:=by
 cases b
 · have :=a rfl; rwa [nv h] at this
 · have :=i rfl; rwa [nv h] at this
end
attribute [irreducible] lD
end Go.Hb
end
namespace Go.Hb
theorem Kl {b:UInt8} {m:Int} (h:48≤b.toNat∧b.toNat≤57) (hm:((b.toNat - 48:Nat):Int)≤m):e5 [b] m= .ok (b.toNat - 48):=by
 have a:eW [b]=b.toNat - 48:=by simp [eW]
 have q:¬qF [b]:=by rintro (h | ⟨h,_⟩) <;> simp at h
 have hd:Bl [b]:=fun i hi=>by
  have hi:i=0:=by simpa using hi
  subst hi
  exact decide_eq_true h
 unfold e5
 rw [CR q hd (by rw [a]; omega),a]
 rfl
theorem DW:eK 1 [65]=65:=by unfold eK; decide+kernel
theorem ZC:gK hZ [65]= .ok 65:=by
 unfold gK gP hZ
 simp only
 rw [DW]
 simp [eJ,eb]
theorem ZD:kT 1 [65]= .ok [65]:=by
 have h1:dM 1 [65]= [[65]]:=by decide+kernel
 have h:ed 1 [65]=([65],0):=by
  unfold ed
  rw [h1,if_neg (by simp),if_neg (by simp [DW]),if_neg (by simp),um,List.map_nil,DW]
  decide+kernel
 unfold kT
 rw [h]; rfl
def tR:Tx:= [83,70,88,32,65,32,89,32,50,10,83,70,88,32,65,32,48,32,115,10,83,70,88,32,65,32,48,32,101,114,10]
def zp:Tx:= [49,10,100,111,47,65,10]
def jZ:aU:=⟨1,[],[],[0,0,0,0,0],3,[],[],[⟨65,2,true,0,2⟩],[⟨2,65,true,[],[115],[46],[],2⟩,⟨2,65,true,[],[101,114],[46],[],3⟩]⟩
def nw:List bH:= [([100,111],[65])]
theorem Zs:bR tR= [(1,[[83,70,88],[65],[89],[50]]),(2,[[83,70,88],[65],[48],[115]]),(3,[[83,70,88],[65],[48],[101,114]])]:=by decide+kernel
theorem Zt:bR zp= [(1,[[49]]),(2,[[100,111,47,65]])]:=by decide+kernel
theorem Ml {s:Tx} {ln:Nat} (hw:bD s=(s,[],false,0)) (a:s≠[48]) (i:gI s=0):fI 1 [] ⟨65,2,true,0,2⟩ ln [[83,70,88],[65],[48],s]= .ok ⟨2,65,true,[],s,[46],[],ln⟩:=by
 unfold fI
 rw [if_neg (by simp)]
 simp only [lT,NF]
 rw [show eF true [48]= .ok [] from if_pos ⟨rfl,rfl⟩,hw]
 simp only
 rw [show jK (s,[],false,0)= .ok s from by unfold jK; rw [if_neg (by simp),if_neg a,if_neg (by simp [i])]]
 rfl
theorem Zo:fy tR= .ok jZ:=by
 unfold fy
 rw [if_neg az,Zs]
 simp only [c7,fU]
 have q:cw ((bL tR).length+1) hZ [] [(2,[[83,70,88],[65],[48],[115]]),(3,[[83,70,88],[65],[48],[101,114]])] 1 [[83,70,88],[65],[89],[50]]= .ok (jZ,[]):=by
  unfold cw
  simp only [lT]
  rw [if_neg az,if_neg az,if_neg az,if_neg az,if_neg az,if_neg az,if_neg az]
  unfold gO
  simp only [lT,NF]
  rw [ZC]
  simp only
  rw [if_neg (by simp),Kl (b:=50) az az]
  simp only
  rw [if_neg az]
  have i:∀ b,b=true→group [[83,70,88],[65]] (fI hZ.kind hZ.aliases ⟨65,if ([83,70,88]:Tx)=du then 2 else 1,b,hZ.rules.length,N4 50 - 48⟩) ((bL tR).length+1) (N4 50 - 48) [(2,[[83,70,88],[65],[48],[115]]),(3,[[83,70,88],[65],[48],[101,114]])]= .ok (jZ.rules,[]):=by
   intro b a
   subst a
   show group [[83,70,88],[65]] (fI 1 [] ⟨65,2,true,0,2⟩) _ 2 _=_
   rw [group,if_neg az,Ml (by decide+kernel) az az]
   simp only
   rw [group,if_neg az,Ml (by decide+kernel) az az]
   rfl
  rw [i _ (by simp)]
  simp only [decide_true]
  rfl
 rw [gM]
 simp only [lT]
 rw [if_neg az,if_neg az,if_neg az,q]
 simp only
 rw [gM]
 rfl
theorem Zq:fq jZ zp= .ok nw:=by
 have a:ga jZ [[100,111,47,65]]= .ok ([100,111],[65]):=by
  have hw:bD [100,111,47,65]=([100,111],[65],true,0):=by decide+kernel
  refine (Bu (row:= [[100,111,47,65]]) (set := [65]) aa ?_ ?_ ?_ ?_ ?_ ?_ ?_).trans ?_
  all_goals try simp only [lT,hw]
  · decide
  · decide
  · simp
  · show fX 1 [] [65]=_
    unfold fX; rw [if_pos rfl]; exact ZD
  · intro i hi
    have :i=0:=by simpa using hi
    subst this; decide
 have hn:e5 [49] 8192= .ok 1:=Kl az az
 rw [Hh az Zt rfl (show e5 ([[49]].getD 0 []) 8192= .ok 1 from hn),fi,a]
 simp only
 rw [fi]
 rfl
def vY:List bZ:= [⟨[100,111],0,-1,-1,-1⟩,⟨[100,111,115],0,0,-1,-1⟩,⟨[100,111,101,114],0,1,-1,-1⟩]
theorem Mk (ad:Tx) (ln:Nat):dJ ⟨2,65,true,[],ad,[46],[],ln⟩ [100,111]=some ([100,111]++ad):=by
 have a:dq [46]=([],0):=by unfold dq; rw [if_neg (by simp),if_pos rfl]
 unfold dJ iH
 simp only [a]
 rw [if_pos (by simp only [if_true,fU]; rfl)]
 rfl
theorem Zp:jL jZ nw 0=vY:=by
 have h1:aW jZ (flagsOf nw (0:Nat)) 1= []:=az
 have h2:aW jZ (flagsOf nw (0:Nat)) 2= [0,1]:=az
 have h3:aW jZ (db jZ (0:Nat)) 2= []:=az
 have h4:aW jZ (db jZ (1:Nat)) 2= []:=az
 have a:∀ w f s,eG jZ nw 0 w f s=kB jZ nw 0 w f s:=fun w f s=>by unfold eG; rw [h1]; simp
 unfold jL
 rw [h2,a]
 simp only [rh,ND,ei]
 unfold gd
 rw [show dJ (jZ.rules.getD 0 e6) (nw.getD 0 ([],[])).1=some [100,111,115] from Mk [115] 2,show dJ (jZ.rules.getD 1 e6) (nw.getD 0 ([],[])).1=some [100,111,101,114] from Mk [101,114] 3]
 simp only [h3,h4,ND,ei,a]
 unfold kB
 rw [if_pos az,if_pos az,if_pos az]
 rfl
end Go.Hb
section
namespace Go.Hb
abbrev qL (a:List Nat):List Deferred:=a.map fun D=> {target:= .collected D,args:= #[]}
def qu:List Nat→World→World
 | [],w=>w
 | D::Ds,w=>qu Ds<|w.putObj D<|.deferred none
def kt (a:List Nat) (w:World):Prop :=(∀ D∈a,w.heap[D]? =some (.deferred<|some []))∧a.Nodup
theorem kt.nc {a:List Nat} {w w':World} (h:kt a w) (hn:eV w w'):kt a w':=⟨fun D i=>hn D _ (h.1 D i) (fun _ _ _ h=>by cases h),h.2⟩
theorem kt.cons {a:List Nat} {D:Nat} {w:World} (h:kt a w) (i:w.heap[D]? =some (.deferred<|some [])) (hn:D∉a):kt (D::a) w:=
 ⟨fun k hk=>(e7.1 hk).elim (fun e=>e ▸ i) (h.1 k),ur.2 ⟨hn,h.2⟩⟩
theorem kt.ne {a:List Nat} {w:World} {D:Nat} (h:kt a w) (i:w.heap.size≤D):D∉a:=fun h2=>by have :=(dB.1<|h.1 D h2).1; omega
theorem kt.put {a:List Nat} {D:Nat} {w:World} (h:kt (D::a) w):kt a (w.putObj D<|.deferred none):=
 ⟨fun k hk=>by
  have i:k≠D:=fun h2=>(ur.1 h.2).1<|h2 ▸ hk
  rw [nB i]; exact h.1 k (rj _ hk),(ur.1 h.2).2⟩
theorem Bp:∀ (a:List Nat) (w:World),Md (fun k=>k∈a) w (qu a w)
 | [],w=>Md.refl _ w
 | D::a,w=>((mF w D<|.deferred none).mono fun k _ hk=>hk ▸ uo ..).trans' (Bp a _) fun k _ hk=>rj _ hk
theorem Bo:∀ (a:List Nat) (w:World) {b off :Nat} {v:Value},kt a w→Hb.aR w.heap b off =some v→Hb.aR (qu a w).heap b off =some v
 | [],_,_,_,_,_,hc=>hc
 | D::a,w,_,_,_,h,hc=>Bo a _ h.put<|QV hc (h.1 D<|uo ..) fun _ _ _ h=>by cases h
section
variable {P:Program} {n:Nat} {Fx:List Nat} {σ:Nat→Value} {w:World} {fn:Func} {R:Value→World→Prop} {B:Exit→Act→World→Prop} {N:Fm}
theorem Jv {tmps:Array Value} {v:Value} :∀ (a:List Nat) (w:World),kt a w→(results fn tmps).run P (qu a w)= .ok v (qu a w)→R v (qu a w)→
 LeavesInM iQ 0 P fn tmps (fun e w'=> ∃ v,e= .returned v∧R v w') (qL a) .returning w
 | [],w,_,hr,hR=>⟨v,hr,v,rfl,hR⟩
 | D::a,w,h,hr,hR=>⟨M4,.inl ⟨_,_,rfl,run_takeDeferred (h.1 D<|uo ..),Jv a _ h.put hr hR⟩⟩
theorem HF {r:ResultVar} {v:Value} (a:List Nat) (i:kt a w) (h:fn.results= #[r]) (h1:mY P ⟨n,qL a,Fx,none⟩ σ (qu a w) r v) (q:R v (qu a w)):qb ⟨n,qL a,Fx,none⟩ (Bm P fn R) .ret σ w:=
 Jv a w i (KW h<|mL h1) q
theorem yJ {id:Nat} {c:Code} (h:k3 P N c (zD id B) σ w):k3 P N (.block id c) B σ w:=wpIn_block h
theorem oN {c:Code} {v:Value} (i:Nat) (h:σ i=v) (a:k3 P N c B (dD σ i v) w):k3 P N c B σ w:=by rw [nv h] at a; exact a
theorem qK {id:Nat} (h:qb N B .normal σ w):qb N (zD id B) .normal σ w:=h
theorem JI {id:Nat} (h:qb N B .normal σ w):qb N (zD id B) (.exit id) σ w:=by show (if id=id then B .normal (act N σ) w else B (.exit id) (act N σ) w); rw [if_pos rfl]; exact h
theorem JW {i:Nat} {y:Act→World→Prop} (h:qb N B (.exit i) σ w):qb N (Exit.then y B) (.exit i) σ w:=h
def CJ (n:Nat) (Fx:List Nat) (R:List Nat→(Nat→Value)→World→Prop) (B:Exit→Act→World→Prop):Exit→Act→World→Prop
 | .normal,a,w=> ∃ i σ,a=act ⟨n,qL i,Fx,none⟩ σ∧R i σ w
 | e,a,w=>B e a w
variable {S:List Nat→(Nat→Value)→World→Prop}
theorem qM (a:List Nat) (h:S a σ w):qb ⟨n,qL a,Fx,none⟩ (CJ n Fx S B) .normal σ w:=⟨a,σ,rfl,h⟩
theorem JV {i:Nat} (h:qb N B (.exit i) σ w):qb N (CJ n Fx S B) (.exit i) σ w:=h
theorem JU {c:Code} (a:List Nat) (E:Nat→List Nat→(Nat→Value)→World→Prop) (m:Nat) (Z:E m a σ w)
 (h:∀ m a σ w,E m a σ w→k3 P ⟨n,qL a,Fx,none⟩ c (CJ n Fx (fun M am w'=> ∃ k,k < m∧E k M am w') B) σ w):k3 P ⟨n,qL a,Fx,none⟩ (.loop c) B σ w:=by
 intro b k cs aj I J
 have key:∀ m a σ w,E m a σ w→
  ∃ e G w',B e G w'∧ArrivesIn (Machine.fenced P iQ) P (lone (b.atR (act ⟨n,qL a,Fx,none⟩ σ) (.code c:: .inLoop c::k)) cs w) b k cs e G w':=by
  intro m
  induction m using Nat.strongRecOn with
  | _ m ak=>
    intro a σ w ab
    obtain ⟨e,C,A,q,i⟩:=h m a σ w ab b (.inLoop c::k) cs aj I J
    cases e with
    | normal=>
      obtain ⟨O,an,rfl,j,ag,ac⟩:=q
      obtain ⟨Y,U,al,ai,ae⟩:=ak j ag O an A ac
      exact ⟨Y,U,al,ai,.of_steps (StepsIn.trans i<|.one (fenced_calm I J aa) stepR_inLoop) ae⟩
    | exit id=>exact ⟨.exit id,C,A,q,.pass (x:= .inLoop c) rfl (fun _ _=> .inl<|by simp) i⟩
    | goto l=>exact ⟨.goto l,C,A,q,.pass (x:= .inLoop c) rfl (fun _ _=> .inl<|by simp) i⟩
    | ret=>exact ⟨.ret,C,A,q,.pass (x:= .inLoop c) rfl (fun _ _=> .inl<|by simp) i⟩
    | panic V=>exact ⟨.panic V,C,A,q,.pass (x:= .inLoop c) rfl (fun _ _=> .inl<|by simp) i⟩
    | outgrown=>exact ⟨.outgrown,C,A,q,.pass (x:= .inLoop c) rfl (fun _ _=> .inl<|by simp) i⟩
 obtain ⟨e,G,w',ah,i⟩:=key _ a σ w Z
 exact ⟨e,G,w',ah,.of_steps (.one (fenced_calm I J aa) stepR_loop) i⟩
end
section
variable {P:Program} {N:Fm} {σ:Nat→Value} {w:World} {dst:Option Nat} {ty:TypeId} {pos :String} {af:Array Edge} {g:Option (Nat×Bool)} {K:(Nat→Value)→World→Prop}
end
section
variable {P:Program} {N:Fm} {σ:Nat→Value} {w:World} {dst:Option Nat} {ty:TypeId} {pos :String} {af:Array Edge} {g:Option (Nat×Bool)} {x y:Operand}
theorem S8 (d:Nat) {t:TypeId} {a b:Array TypeId} {v:Bool} {f:FuncId} {i:Array Value} (hu:P.underlying t=some (.func a b v)):(o4 (d+1) t (.func (.func f) #[] i) .nilFunc).run P w= .ok false w:=by
 simp [o4,eA hu]
theorem S9 {t:TypeId} {a b:Array TypeId} {v:Bool} {f:FuncId} {i:Array Value} (hu:P.underlying t=some (.func a b v)):(Op.equal t (.func (.func f) #[] i) .nilFunc).run P w= .ok false w:=S8 9999 hu
theorem Hw {t C:TypeId} {a b:Array TypeId} {v:Bool} {f:FuncId} {i:Array Value} (hu:P.underlying t=some (.func a b v)) (q:ev N σ x= .func (.func f) #[] i) (A:ev N σ y= .nilFunc):
 (execOp (ev N σ) ⟨dst,.binOp .eql t x y C,ty,pos,af,g⟩).run P w= .ok (.value<|.bool false) w:=by
 have h:(binOp .eql t (.func (.func f) #[] i) .nilFunc).run P w= .ok (.bool false) w:=by
  simp only [binOp]; simp [S9 hu]
 simp [execOp,q,A,eqGuard,h]
end
end Go.Hb
end
section
namespace Go.Hb.fw
open Go.Proofs
def kZ (l:List (Tx×Tx)):List Value:=l.flatMap fun p=> [str p.1,str p.2]
def nN (c:dm):List Value:= [bj c.flag,.int .i64 (c.kind:Nat),.bool c.ew,.int .i64 (c.first:Nat),.int .i64 (c.count:Nat)]
def m9 (l:List dm):List Value:=l.flatMap nN
def fD (q:dp×Value):List Value:= [.int .i64 (q.1.kind:Nat),bj q.1.flag,.bool q.1.ew,str q.1.strip,str q.1.add,str q.1.cond,q.2]
def iV (l:List (dp×Value)):List Value:=l.flatMap fD
structure dx where
 rb:Nat
 fb:Nat
 ms:Nat
 mt:Nat
 mc:Nat
 eof:Nat
structure ff where
 v9:Value
 v10:Value
 v11:Value
 v12:Value
 sa:List Value
 rn:List Value
structure gX where
 vr:Value
 vs:List (Nat×Value)
 vn:Value
def oI (F:aU) (V:ff) (mc:Nat):List Value:= [.int .i64 (F.kind:Nat),str F.rE,str F.tr,bj (F.sp.getD 0 0),bj (F.sp.getD 1 0),bj (F.sp.getD 2 0),bj (F.sp.getD 3 0),bj (F.sp.getD 4 0),.int .i64 (F.least:Nat),V.v9,V.v10,V.v11,V.v12,.map (some mc)]
def vF (H:dx) (R:gX) (ln:Nat):List Value:= [.pointer (some ⟨H.fb,0,none⟩),R.vr,.int .i64 (ln:Nat),.int .i64 (H.eof:Nat),.map (some H.ms),.map (some H.mt),R.vn]
structure dX (w:World) (B fb mc:Nat) (F:aU) (V:ff):Prop where
 cells:w.heap[fb]? =some (.cells (oI F V mc).toArray 125 (0,0))
 o9:bw w B 128 2 V.v9 F.dt.length (kZ F.dt)
 eY:bw w B 70 1 V.v10 F.aliases.length V.sa
 al:eB w B 51 V.sa F.aliases
 ez:bw w B 131 5 V.v11 F.bA.length (m9 F.bA)
 dK:bw w B 77 7 V.v12 F.rules.length (iV<|F.rules.zip V.rn)
 nx:eB w B 51 V.rn (F.rules.map (·.next))
 cm:∃ f,dy w.heap mc (pO .u16) f∧∀ x:Nat,f (bj x)=(F.bA.findIdx? fun c=>decide (c.flag=x)).map fun i:Nat=>Value.int .i64 i
 lo:B≤fb∧B≤mc
 fR:F.sp.length=5
theorem dX.md {G:Nat→Prop} {w w':World} {B fb mc:Nat} {F:aU} {V:ff} (h:dX w B fb mc F V) (hm:Md G w w') {L:List Nat} (a:TF w L G) (i:(L.contains 127 || L.contains 130 || L.contains 72 || L.contains 53 || L.contains 133 || L.contains 79)=false) (I:¬G mc):dX w' B fb mc F V:=by
 simp only [nA] at i
 obtain ⟨⟨⟨⟨⟨h1,h2⟩,h3⟩,h4⟩,h5⟩,h6⟩:=i
 have q:∀ k,G k→∀ cur z,w.heap[k]?≠some (.cells cur 51 z):=fun k hk cur z E=>a.no (dA E) h4 hk
 obtain ⟨f,A,C⟩:=h.cm
 exact ⟨hm.ic a h.cells h1,cx h.o9 hm a h2,cx h.eY hm a h3,h.al.md hm q,cx h.ez hm a h5,cx h.dK hm a h6,h.nx.md hm q,⟨f,A.md hm I,C⟩,h.lo,h.fR⟩
theorem dX.wk {w w':World} {B fb mc:Nat} {F:aU} {V:ff} (h:dX w B fb mc F V) (hm:Wk w w'):dX w' B fb mc F V:=h.md (L:= []) hm (fun _ hk=>hk.elim) rfl id
structure dE (w:World) (B:Nat) (H:dx) (F:aU) (R:gX) (rows:List Rw) (ln:Nat) (seen:List Tx):Prop where
 cells:w.heap[H.rb]? =some (.cells (vF H R ln).toArray 195 (0,0))
 rws:mu w B 209 rows.length R.vr (kK R.vs)
 rt:gZ w B 9 R.vs rows
 sm:∃ f,dy w.heap H.ms jo f∧∀ s:Tx,(f<|str s).getD (.int .i64 0)= .int .i64 (seen.count s:Nat)
 tm:∃ f,dy w.heap H.mt (pO .u16) f∧∀ x:Nat,x≠0→(f<|bj x).getD (.int .i64 0)= .int .i64 ((if eJ F x=true then 1 else 0:Nat):Nat)
 on :bw w B 3 1 R.vn F.rules.length (F.rules.map fun r=>Value.int .i64 (r.line:Nat))
 lo:B≤H.rb∧B≤H.ms∧B≤H.mt
 ne:H.ms≠H.mt∧H.ms≠H.mc∧H.mt≠H.mc
theorem dE.md {G:Nat→Prop} {w w':World} {B:Nat} {H:dx} {F:aU} {R:gX} {rows:List Rw} {ln:Nat} {seen:List Tx} (h:dE w B H F R rows ln seen) (hm:Md G w w') {L:List Nat} (a:TF w L G) (q:(L.contains 197 || L.contains 211 || L.contains 11 || L.contains 5)=false) (J:¬G H.ms) (M:¬G H.mt):dE w' B H F R rows ln seen:=by
 simp only [nA] at q
 obtain ⟨⟨⟨h1,h2⟩,h3⟩,h4⟩:=q
 obtain ⟨f,A,C⟩:=h.sm
 obtain ⟨g,E,I⟩:=h.tm
 exact ⟨hm.ic a h.cells h1,h.rws.md hm (fun k hk cur z i=>a.no (dA i) h2 hk),h.rt.md hm (fun k hk cur z i=>a.no (dA i) h3 hk),⟨f,A.md hm J,C⟩,⟨g,E.md hm M,I⟩,cx h.on hm a h4,h.lo,h.ne⟩
theorem dE.wk {w w':World} {B:Nat} {H:dx} {F:aU} {R:gX} {rows:List Rw} {ln:Nat} {seen:List Tx} (h:dE w B H F R rows ln seen) (hm:Wk w w'):dE w' B H F R rows ln seen:=h.md (L:= []) hm (fun _ hk=>hk.elim) rfl id id
theorem dE.dw {w:World} {B:Nat} {H:dx} {F:aU} {R:gX} {rows:List Rw} {ln:Nat} {seen:List Tx} (h:dE w B H F R rows ln seen):Hb.aR w.heap H.rb 2=some (.int .i64 (ln:Nat)):=(a7 h.cells).trans rfl
structure kM (F:aU) (rows:List Rw) (seen:List Tx):Prop where
 len:F.dt.length+F.aliases.length+F.bA.length+F.rules.length+rows.length≤70000
 sl:seen.length+rows.length≤70000
 row:∀ q∈rows,q.2≠[]∧q.2.length≤70000∧∀ x∈q.2,x.length≤70000
 kd:F.kind=1∨F.kind=2∨F.kind=3
 al:∀ l∈F.aliases,l.length≤64∧l.Pairwise (· < ·)
def St (w:World) (B:Nat) (H:dx) (F:aU) (rows:List Rw) (ln:Nat) (seen:List Tx):Prop := ∃ V R,dX w B H.fb H.mc F V∧dE w B H F R rows ln seen∧kM F rows seen
abbrev fE (B:Nat) (H:dx) (w w':World):Prop :=Mw [197,127,130,72,133,79,5] H.ms H.mt H.mc B w w'
theorem dE.dD {w w':World} {B:Nat} {H:dx} {F:aU} {R R':gX} {rows rows':List Rw} {ln ln':Nat} {seen:List Tx} (h:dE w B H F R rows ln seen) (hm:Md (fun k=>k=H.rb) w w') (C:w'.heap[H.rb]? =some (.cells (vF H R' ln').toArray 195 (0,0))) (M:R'.vn=R.vn) (I:mu w B 209 rows'.length R'.vr (kK R'.vs)) (J:gZ w B 9 R'.vs rows'):dE w' B H F R' rows' ln' seen:=by
 obtain ⟨f,q,E⟩:=h.sm
 obtain ⟨g,A,G⟩:=h.tm
 have a:TF w [197] (fun k=>k=H.rb):=TF.eq (dA h.cells) az
 exact ⟨C,I.md hm (fun k hk cur z i=>a.no (dA i) az hk),J.md hm (fun k hk cur z i=>a.no (dA i) az hk),⟨f,q.md hm (a.no (eH q) az),E⟩,⟨g,A.md hm (a.no (eH A) az),G⟩,M ▸ cx h.on hm a az,h.lo,h.ne⟩
theorem gZ.tl {w:World} {B e:Nat} {q:Nat×Value} {r:Rw} {vs:List (Nat×Value)} {rs:List Rw} (h:gZ w B e (q::vs) (r::rs)):gZ w B e vs rs:=⟨by have :=h.1; simpa using this,fun i a A h1 h2=>h.2 (i+1) a A h1 h2⟩
theorem dX.put {w w':World} {B fb mc:Nat} {F F':aU} {V:ff} (h:dX w B fb mc F V) (hm:Md (fun k=>k=fb) w w') (A:w'.heap[fb]? =some (.cells (oI F' V mc).toArray 125 (0,0))) (h1:F'.dt=F.dt) (h2:F'.aliases=F.aliases) (h3:F'.bA=F.bA) (h4:F'.rules=F.rules) (h5:F'.sp.length=5):dX w' B fb mc F' V:=by
 have a:TF w [127] (fun k=>k=fb):=TF.eq (dA h.cells) az
 have q:∀ k,k=fb→∀ cur z,w.heap[k]?≠some (.cells cur 51 z):=fz h.cells az
 obtain ⟨f,i,C⟩:=h.cm
 exact ⟨A,h1 ▸ cx h.o9 hm a az,h2 ▸ cx h.eY hm a az,h2 ▸ h.al.md hm q,h3 ▸ cx h.ez hm a az,h4 ▸ cx h.dK hm a az,h4 ▸ h.nx.md hm q,⟨f,i.md hm (a.no (eH i) az),h3 ▸ C⟩,h.lo,h5⟩
theorem dE.fb {w w':World} {B:Nat} {H:dx} {F i:aU} {V:ff} {R:gX} {rows:List Rw} {ln:Nat} {seen:List Tx} (h:dE w B H F R rows ln seen) (q:dX w B H.fb H.mc i V) (hm:Md (fun k=>k=H.fb) w w'):dE w' B H F R rows ln seen:=by
 have a:TF w [127] (fun k=>k=H.fb):=TF.eq (dA q.cells) az
 obtain ⟨f,A,E⟩:=h.sm
 obtain ⟨g,C,G⟩:=h.tm
 exact h.md hm a az (a.no (eH A) az)<|a.no (eH C) az
theorem dX.rb {w w':World} {B:Nat} {H:dx} {F a:aU} {V:ff} {R:gX} {rows:List Rw} {ln:Nat} {seen:List Tx} (h:dX w B H.fb H.mc a V) (q:dE w B H F R rows ln seen) (hm:Md (fun k=>k=H.rb) w w'):dX w' B H.fb H.mc a V:=by
 have i:TF w [197] (fun k=>k=H.rb):=TF.eq (dA q.cells) az
 obtain ⟨f,A,C⟩:=h.cm
 exact h.md hm i az<|i.no (eH A) az
theorem dE.congr {w:World} {B:Nat} {H:dx} {F F':aU} {R:gX} {rows:List Rw} {ln:Nat} {seen:List Tx} (h:dE w B H F R rows ln seen) (q:F'.rules=F.rules) (hd:∀ x,eJ F' x=eJ F x):dE w B H F' R rows ln seen:=by
 obtain ⟨g,a,i⟩:=h.tm
 exact ⟨h.cells,h.rws,h.rt,h.sm,⟨g,a,fun x A=>by rw [hd]; exact i x A⟩,q ▸ h.on,h.lo,h.ne⟩
theorem dE.vu {w w':World} {B:Nat} {H:dx} {F F':aU} {R:gX} {rows:List Rw} {ln:Nat} {seen:List Tx} {f:Value→Option Value} (h:dE w B H F R rows ln seen) (hm:Md (fun k=>k=H.mt) w w') (q:dy w'.heap H.mt (pO .u16) f) (G:F'.rules=F.rules) (hd:∀ x:Nat,x≠0→(f<|bj x).getD (.int .i64 0)= .int .i64 ((if eJ F' x=true then 1 else 0:Nat):Nat)):dE w' B H F' R rows ln seen:=by
 obtain ⟨g,E,_⟩:=h.tm
 obtain ⟨f0,A,C⟩:=h.sm
 have a:TF w [1] (fun k=>k=H.mt):=TF.eq (eH E) az
 exact ⟨hm.ic a h.cells az,h.rws.md hm (fun k hk cur z i=>a.no (dA i) az hk),h.rt.md hm (fun k hk cur z i=>a.no (dA i) az hk),⟨f0,A.md hm h.ne.1,C⟩,⟨f,q,hd⟩,G ▸ cx h.on hm a az,h.lo,h.ne⟩
theorem dX.vu {w w':World} {B:Nat} {H:dx} {F a:aU} {V:ff} {R:gX} {rows:List Rw} {ln:Nat} {seen:List Tx} (h:dX w B H.fb H.mc a V) (i:dE w B H F R rows ln seen) (hm:Md (fun k=>k=H.mt) w w'):dX w' B H.fb H.mc a V:=by
 obtain ⟨g,q,_⟩:=i.tm
 exact h.md (L:= [1]) hm (TF.eq (eH q) az) az fun h=>i.ne.2.2 h.symm
theorem fE.fb {w w':World} {B:Nat} {H:dx} {i:aU} {V:ff} (a:dX w B H.fb H.mc i V) (hm:Md (fun k=>k=H.fb) w w'):fE B H w w':=Mw.of hm (TF.eq (dA a.cells) az) fun k hk=>hk ▸ a.lo.1
theorem fE.rb {w w':World} {B:Nat} {H:dx} {F:aU} {R:gX} {rows:List Rw} {ln:Nat} {seen:List Tx} (a:dE w B H F R rows ln seen) (hm:Md (fun k=>k=H.rb) w w'):fE B H w w':=Mw.of hm (TF.eq (dA a.cells) az) fun k hk=>hk ▸ a.lo.1
theorem fE.mt {w w':World} {B:Nat} {H:dx} {F:aU} {R:gX} {rows:List Rw} {ln:Nat} {seen:List Tx} (a:dE w B H F R rows ln seen) (hm:Md (fun k=>k=H.mt) w w'):fE B H w w':=hm.mono fun k _ hk=>⟨hk ▸ a.lo.2.2,.inr<|.inl hk⟩
def ju (B:Nat) (H:dx) (seen:List Tx) (X:Except (Nat×Nat) (aU×List Rw)) (w:World) (v:Value) (w':World):Prop :=v= .tuple #[]∧∃ F' rows' ln',X= .ok (F',rows')∧St w' B H F' rows' ln' seen∧fE B H w w'
def jt (B:Nat) (H:dx) (X:Except (Nat×Nat) (aU×List Rw)) (w:World) (c:List PanicEntry) (w':World):Prop := ∃ l e,X= .error (l,e)∧c=jn 47 l (e:Nat)∧fE B H w w'
def ku (F:aU) (seen:List Tx):Prop := ∀ k∈eh,k∉seen→F.sp.getD (eh.idxOf k) 0=0
theorem Sr {F:aU} {i x:Nat} (hi:i < F.sp.length) (a:F.sp.getD i 0=0) (y:Nat) (C:y≠0):eJ {F with sp:=F.sp.set i x} y=(decide (y=x) || eJ F y):=by
 unfold eJ
 show (decide (y∈F.sp.set i x) || _)=_
 rw [← Bool.or_assoc]
 congr 1
 rw [← Bool.decide_or,decide_eq_decide]
 constructor
 · intro h
   rcases EG h with h | h
   · exact .inr h
   · exact .inl h
 · rintro (h | h)
   · subst h; exact List.mem_set hi _
   · obtain ⟨j,A⟩:=wS h
     by_cases q:i=j
     · subst q
       rw [da,A] at a
       exact absurd a C
     · exact iR (i:=j)<|by rw [k5,if_neg q]; exact A
theorem Tg.vv {w:World} {B e A n cp b:Nat} {a:Option Addr} {xs:List Value} {cs:Array Value} {z:Nat×Nat} (h:Tg w B e n (.slice a n cp) xs) (J:xs≠[]) (i:w.heap[b]? =some (.cells cs A z)) (G:e≠A):¬(bk a=b):=by
 obtain ⟨M,O,I,_,E⟩:=h
 cases I
 rcases E with rfl | ⟨q,cur,z2,rfl,_,C,_⟩
 · exact absurd aa J
 · rintro rfl
   rw [show (bk<|some ⟨q,0,none⟩)=q from rfl] at i
   rw [C] at i
   simp only [fV,wo] at i
   exact G i.2.1
theorem TA {F:aU} {V:ff} {mc i o x:Nat} (h5:F.sp.length=5) (hi:i < 5) (q:o=3 +i):(oI F V mc).set o (bj x)=oI {F with sp:=F.sp.set i x} V mc:=by
 subst q
 obtain ⟨k,cs,tr,sp,le,A,al,cl,ru⟩:=F
 match sp,h5 with
 | [a,b,c,d,e],_=>
   match i,hi with
   | 0,_=>rfl
   | 1,_=>rfl
   | 2,_=>rfl
   | 3,_=>rfl
   | 4,_=>rfl
theorem Ha (b:Bool):decide (((if b=true then 1 else 0:Nat):Int)=0)= !b:=by cases b <;> rfl
theorem L0 {x y:Nat} (h:bj x=bj y):x=y:=by unfold bj at h; injection h with _ h; omega
theorem LQ {F F':aU} {f:Value→Option Value} {x:Nat} (hd:eJ F x=false) (q:∀ y:Nat,y≠0→(f<|bj y).getD (.int .i64 0)= .int .i64 ((if eJ F y=true then 1 else 0:Nat):Nat)) (i:∀ y,y≠0→eJ F' y=(decide (y=x) || eJ F y)) (y:Nat) (a:y≠0):(bW f (bj x) (.int .i64 (1:Nat))<|bj y).getD (.int .i64 0)= .int .i64 ((if eJ F' y=true then 1 else 0:Nat):Nat):=by
 rw [i y a]
 by_cases h:y=x
 · subst h; rw [vB]; simp
 · rw [tE (fun h2=>h<|L0 h2),q y a]; simp [h]
theorem im {G:Nat→Prop} {w w':World} (h:Md G w.drew w'):Md G w w':=⟨h.os,h.output,h.size,h.cH⟩
theorem eB.get {w:World} {B e i:Nat} {vs:List Value} {a:List (List Nat)} (h:eB w B e vs a) (hi:i < a.length):∃ v,vs[i]? =some v∧Tg w B e (a.getD i []).length v ((a.getD i []).map bj):=by
 have h1:i < vs.length:=by rw [h.1]; exact hi
 refine ⟨vs[i],cI h1,h.2 i _ _ (cI h1) ?_⟩
 rw [da,cI hi]; rfl
theorem Tg.tB {w:World} {B e n cp:Nat} {a:Option Addr} {xs:List Value} (h:Tg w B e n (.slice a n cp) xs) (A:xs.length=n) (i:a=none):n=0:=by
 obtain ⟨E,I,C,_,q⟩:=h
 cases C
 rcases q with rfl | ⟨G,cur,z2,h2,_⟩
 · exact A.symm
 · rw [i] at h2; cases h2
theorem Tg.JK {G:Nat→Prop} {w w':World} {B e n:Nat} {v:Value} {xs:List Value} (h:Tg w B e n v xs) (hm:Md G w w') (A:∀ k,G k→k < B):Tg w' B e n v xs:=by
 obtain ⟨a,cp,rfl,i,h | ⟨b,cur,z,rfl,C,q,E⟩⟩:=h
 · exact ⟨a,cp,aa,i,.inl h⟩
 · exact ⟨_,cp,aa,i,.inr ⟨b,cur,z,aa,C,by rw [hm.cH b (dB.1 q).1 (fun hk=>by have :=A b hk; omega)]; exact q,E⟩⟩
end Go.Hb.fw
end
