/-
  Walks and plain laws that the law rests on, laid together. No conditions but those that each theorem names.
-/
import Derived.Test.YtffmhpaepdkabaaGreatDoorMnDeriveLists1
set_option linter.unusedVariables false
open Array renaming foldl_toList→MH,getElem?_eq_some_iff→dm,getElem?_setIfInBounds_ne→MI,getElem?_setIfInBounds_self_of_lt→MJ,length_toList→wg,replicate→tY,toList_inj→zH,toList_map→nv,toList_zip→ML
open Bool renaming and_eq_true→gO,noConfusion→eb,or_eq_false_iff→nw
open Classical renaming not_not→jn
open Except.ok renaming injEq→sg
open Go.Act renaming put_comm→sh
open Go.Calls renaming mono→lO
open Go.CallsD renaming mono→MT
open Go.CallsIn renaming mono→Ec
open Go.Code renaming wp_mono→MU
open Go.Deferred renaming ofValue→qY
open Go.Extern.BytealgCount renaming count→ZX
open Go.Extern.BytealgIndexByte renaming indexByte→ZY
open Go.Extern renaming find→MZ,findNext→M0
open Go.Fence renaming wide→jg
open Go.Instr renaming beginRound→M2,checkKey→ua,field→M3,fill→oW,findKey→zL,findNow→wm,keyThatStays→Ee,mapUpdate→Ef,sameBits→M6,sameNow→Eg,sliceAt→si,sliceBounds→oX,sureAddr→qZ,typeAssert→M7
open Go.Lib renaming indexByte→M8,run_clear_slice→M9
open Go.Obj.cells renaming injEq→wq
open Go.Oper renaming semAt_eq→Na,semAt_none→wx,upon→kW,uponIn→q4,wp→jW
open Go.Program renaming underlying→Nb
open Go.Region renaming Mode→sn,binds→jX,ready→jo
open Go.RoundIn renaming mono→Ep
open Go.Rows renaming mono→Er
open Go.RowsIn renaming mono→Es
open Go.Sem renaming run→zN
open Go.Value renaming ownBlock→iH,slice→bO
open Go.Value.slice renaming injEq→mR
open Go.World renaming alloc_heap_new→zR,frozen?→Nj,ownsRow→bo,putObj→Nk,putObj_heap_other→oZ,putObj_heap_same→zS,setCell→zT,size_alloc→Nl
open List.Pairwise renaming filter→ZZ,imp→Z0
open List renaming append_assoc→dC,append_nil→ed,eq_nil_of_length_eq_zero→fO,ext_getElem?→p8,flatMap_cons→rh,flatMap_nil→Nz,foldl_cons→sv,getD_cons_succ→NA,getD_cons_zero→lP,getD_eq_getElem?_getD→cQ,getElem?_append_left→mg,getElem?_append_right→mT,getElem?_cons_zero→uj,getElem?_eq_getElem→cz,getElem?_eq_some_iff→fJ,getElem?_map→ic,getElem?_of_mem→wT,getElem?_set→kX,getElem?_toArray→NC,length_append→bI,length_cons→cM,length_drop→fK,length_filter_le→zX,length_map→fE,length_nil→fP,length_replicate→om,length_singleton→eW,length_take→dO,mapM_toArray→wY,map_append→ig,map_cons→um,mem_append→jz,mem_cons→gl,mem_cons_of_mem→uo,mem_flatMap→zZ,mem_map→o4,mem_of_getElem?→iJ,mem_or_eq_of_mem_set→EF,mem_range→uq,mem_singleton→jY,nodup_append→EG,not_mem_nil→ur,pairwise_lt_range→NM,pairwise_map→NN,range→jZ,replicate→kj,size_toArray→oo,take_append→xd,take_of_length_le→eI,take_take→NR,take_zero→oq
open Nat renaming add_sub_cancel→sx,ble→o5,blt→iR,le_refl→cj,le_trans→fW,min_eq_left→o6,mul_le_mul_right→sA,mul_one→o7,zero_le→jD
open Option renaming map_eq_some_iff→pc,map_some→mh
open Option.some renaming inj→rj,injEq→fL
open Prod renaming fst→sD
open Prod.mk renaming injEq→sE
open UInt8 renaming toNat→N2,toNat_inj→kY
open Go.Proofs.Tryz
section
namespace Go.Hb
abbrev Tx:Type :=List UInt8
structure c7 where
 flag:Nat
 kind:Nat
 ei:Bool
 first :Nat
 count:Nat
structure c8 where
 kind:Nat
 flag:Nat
 ei:Bool
 strip:Tx
 add:Tx
 cond:Tx
 next :List Nat
 line:Nat
structure aR where
 kind:Nat
 rE:Tx
 tr:Tx
 sp:List Nat
 least:Nat
 dd:List (Tx×Tx)
 aliases:List (List Nat)
 bp:List c7
 rules:List c8
def gZ:Tx:= [70,76,65,71]
def iy:Tx:= [83,69,84]
def iP:Tx:= [84,82,89]
def ke:Tx:= [78,69,69,68,65,70,70,73,88]
def kA:Tx:= [70,79,82,66,73,68,68,69,78,87,79,82,68]
def kQ:Tx:= [75,69,69,80,67,65,83,69]
def la:Tx:= [67,79,77,80,79,85,78,68,70,76,65,71]
def lL:Tx:= [78,79,83,85,71,71,69,83,84]
def kb:Tx:= [67,79,77,80,79,85,78,68,77,73,78]
def e5:Tx:= [82,69,80]
def eE:Tx:= [65,70]
def fz:Tx:= [80,70,88]
def di:Tx:= [83,70,88]
def rO:Tx:= [115,104,111,114,116]
def tz:Tx:= [108,111,110,103]
def vt:Tx:= [110,117,109]
def dZ:List Tx:= [ke,kA,kQ,la,lL]
def width (k:Tx):Nat:=if k∈dZ∨k=gZ∨k=iy∨k=iP∨k=kb∨k=e5∨k=eE then 2 else if k=fz∨k=di then 4 else 0
def gB (w:Tx):Nat:=if w= []∨gq w=false then 21 else if 32 < w.length then 22 else 0
def et (none:Bool) (fd:Tx):Except Nat Tx:=
 if none=true∧fd= [48] then .ok []
 else if (bu fd).2.2.2≠0 then .error (bu fd).2.2.2
 else if (bu fd).2.2.1=true then .error 114
 else if gB (bu fd).1≠0 then .error (gB (bu fd).1)
 else .ok (bu fd).1
def dU (cs:List c7) (x:Nat):Option c7:=cs.find? fun c=>decide (c.flag=x)
def eB (f:aR) (x:Nat):Bool:=decide (x∈f.sp) || (dU f.bp x).isSome
noncomputable def gD (f:aR) (s:Tx):Except Nat Nat:=
 if (gI f.kind s).2≠0 then .error (gI f.kind s).2 else if eB f (gI f.kind s).1=true then .error 115 else .ok (gI f.kind s).1
noncomputable def kO (kind:Nat) (s:Tx):Except Nat (List Nat):=if (dX kind s).2≠0 then .error (dX kind s).2 else .ok (dX kind s).1
noncomputable def eS (s:Tx) (most:Int):Except Nat Nat:=if (dY s most).2≠0 then .error 13 else .ok (dY s most).1
noncomputable def fN (kind:Nat) (al:List (List Nat)) (s:Tx):Except Nat (List Nat):=
 if al= [] then kO kind s
 else match eS s al.length with
  | .error _=> .error 13
  | .ok n=>if n=0 then .error 13 else .ok (al.getD (n - 1) [])
noncomputable def kT (kind:Nat) (al:List (List Nat)) (a:Nat) (r:lD):Except Nat (List Nat):=
 if r.2.2.1=true then (if a=1 then .error 118 else fN kind al r.2.1) else .ok []
def kM (row:List Tx):Except Nat Tx:=
 if row.length=5 then (if gq (row.getD 4 [])=false then .error 21 else if (da<|row.getD 4 []).2≠0 then .error (da<|row.getD 4 []).2 else .ok (l6 (da<|row.getD 4 []).1)) else .ok [46]
def jJ (r:lD):Except Nat Tx:=if r.2.2.2≠0 then .error r.2.2.2 else if r.1= [48] then .ok [] else if gB r.1≠0 then .error (gB r.1) else .ok r.1
noncomputable def fA (kind:Nat) (al:List (List Nat)) (c:c7) (ln:Nat) (row:List Tx):Except Nat c8:=
 if row.length≠4∧row.length≠5 then .error 111
 else match et true (row.getD 2 []) with
  | .error e=> .error e
  | .ok st=>match jJ (bu<|row.getD 3 []) with
    | .error e=> .error e
    | .ok ad=>match kT kind al c.kind (bu<|row.getD 3 []) with
      | .error e=> .error e
      | .ok nx=>match kM row with
        | .error e=> .error e
        | .ok cd=> .ok ⟨c.kind,c.flag,c.ei,st,ad,cd,nx,ln⟩
def kE (ln:Nat) (row:List Tx):Except Nat (Tx×Tx):=
 if row.length≠3 then .error 111
 else match et false (row.getD 1 []) with
  | .error e=> .error e
  | .ok a=>match et true (row.getD 2 []) with
    | .error e=> .error e
    | .ok b=> .ok (a,b)
noncomputable def kp (kind:Nat) (ln:Nat) (row:List Tx):Except Nat (List Nat):=if row.length≠2 then .error 111 else kO kind (row.getD 1 [])
def group {α:Type} (hd:List Tx) (rd:Nat→List Tx→Except Nat α) (eof:Nat):Nat→List Rw→Except (Nat×Nat) (List α×List Rw)
 | 0,rows=> .ok ([],rows)
 | _+1,[]=> .error (eof,116)
 | n+1,(ln,row)::rows=>if row.take hd.length≠hd then .error (ln,116) else match rd ln row with
   | .error e=> .error (ln,e)
   | .ok x=>match group hd rd eof n rows with
     | .error e=> .error e
     | .ok r=> .ok (x::r.1,r.2)
def jw (s:Tx):Nat:=if s=rO then 1 else if s=tz then 2 else if s=vt then 3 else 0
def ordered (hs:List Tx):Bool:= !hs.any fun h=>decide (h∈dZ∨h=eE∨h=fz∨h=di)
noncomputable def gH (eof:Nat) (f:aR) (rows:List Rw) (ln:Nat) (row:List Tx):Except (Nat×Nat) (aR×List Rw):=
 match gD f (row.getD 1 []) with
 | .error e=> .error (ln,e)
 | .ok x=>if row.getD 2 []≠[89]∧row.getD 2 []≠[78] then .error (ln,114)
   else match eS (row.getD 3 []) 1024 with
    | .error e=> .error (ln,e)
    | .ok n=>if 1024 < f.rules.length+n then .error (ln,117)
      else match group [row.getD 0 [],row.getD 1 []] (fA f.kind f.aliases ⟨x,if row.getD 0 []=di then 2 else 1,decide (row.getD 2 []= [89]),f.rules.length,n⟩) eof n rows with
       | .error e=> .error e
       | .ok r=> .ok ({f with bp:=f.bp++ [⟨x,if row.getD 0 []=di then 2 else 1,decide (row.getD 2 []= [89]),f.rules.length,n⟩],rules:=f.rules++r.1},r.2)
noncomputable def kh (f:aR) (rows:List Rw) (ln:Nat) (row:List Tx):Except (Nat×Nat) (aR×List Rw):=
 match gD f (row.getD 1 []) with
 | .error e=> .error (ln,e)
 | .ok x=> .ok ({f with sp:=f.sp.set (dZ.idxOf<|row.getD 0 []) x},rows)
def kB (f:aR) (hs:List Tx) (rows:List Rw) (ln:Nat) (row:List Tx):Except (Nat×Nat) (aR×List Rw):=
 if ordered hs=false then .error (ln,113) else if jw (row.getD 1 [])=0 then .error (ln,114) else .ok ({f with kind:=jw<|row.getD 1 []},rows)
def mK (f:aR) (rows:List Rw) (ln:Nat) (row:List Tx):Except (Nat×Nat) (aR×List Rw):=
 if gq (row.getD 1 [])=false then .error (ln,21) else .ok ({f with rE:=row.getD 1 []},rows)
def mP (f:aR) (rows:List Rw) (ln:Nat) (row:List Tx):Except (Nat×Nat) (aR×List Rw):=
 if (letE<|row.getD 1 []).2≠0 then .error (ln,(letE<|row.getD 1 []).2) else .ok ({f with tr:=(letE<|row.getD 1 []).1},rows)
noncomputable def kS (f:aR) (rows:List Rw) (ln:Nat) (row:List Tx):Except (Nat×Nat) (aR×List Rw):=
 match eS (row.getD 1 []) 64 with
 | .error e=> .error (ln,e)
 | .ok n=>if n=0 then .error (ln,13) else .ok ({f with least:=n},rows)
noncomputable def kg (eof:Nat) (f:aR) (rows:List Rw) (ln:Nat) (row:List Tx):Except (Nat×Nat) (aR×List Rw):=
 match eS (row.getD 1 []) 256 with
 | .error e=> .error (ln,e)
 | .ok n=>match group [e5] kE eof n rows with
   | .error e=> .error e
   | .ok r=> .ok ({f with dd:=f.dd++r.1},r.2)
noncomputable def jS (eof:Nat) (f:aR) (hs:List Tx) (rows:List Rw) (ln:Nat) (row:List Tx):Except (Nat×Nat) (aR×List Rw):=
 if fz∈hs∨di∈hs then .error (ln,113)
 else match eS (row.getD 1 []) 1024 with
  | .error e=> .error (ln,e)
  | .ok n=>match group [eE] (kp f.kind) eof n rows with
    | .error e=> .error e
    | .ok r=> .ok ({f with aliases:=f.aliases++r.1},r.2)
noncomputable def bY (eof:Nat) (f:aR) (hs:List Tx) (rows:List Rw) (ln:Nat) (row:List Tx):Except (Nat×Nat) (aR×List Rw):=
 if row.getD 0 []∈dZ then kh f rows ln row
 else if row.getD 0 []=gZ then kB f hs rows ln row
 else if row.getD 0 []=iy then mK f rows ln row
 else if row.getD 0 []=iP then mP f rows ln row
 else if row.getD 0 []=kb then kS f rows ln row
 else if row.getD 0 []=e5 then kg eof f rows ln row
 else if row.getD 0 []=eE then jS eof f hs rows ln row
 else gH eof f rows ln row
noncomputable def gF (eof:Nat):Nat→aR→List Tx→List Rw→Except (Nat×Nat) aR
 | 0,f,_,rows=>if rows= [] then .ok f else .error (0,0)
 | _+1,f,_,[]=> .ok f
 | k+1,f,hs,(ln,row)::rows=>
   if width (row.getD 0 [])=0 then .error (ln,110)
   else if row.length≠width (row.getD 0 []) then .error (ln,111)
   else if width (row.getD 0 [])=2∧row.getD 0 []∈hs then .error (ln,112)
   else match bY eof f hs rows ln row with
    | .error e=> .error e
    | .ok r=>gF eof k r.1 (hs++ [row.getD 0 []]) r.2
def mE (f:aR) (x:Nat):Bool:=decide (x=f.sp.getD 0 0) || (match dU f.bp x with | some c=>decide (c.kind=2) | none=>false)
def nH (f:aR) (r:c8):Bool:=r.next.any fun x=> !mE f x
def gV:aR:=⟨1,[],[],[0,0,0,0,0],3,[],[],[],[]⟩
noncomputable def ff (t:Tx):Except (Nat×Nat) aR:=
 if 65536 < t.length then .error (0,10)
 else match gF ((bG t).length+1) (bN t).length gV [] (bN t) with
  | .error e=> .error e
  | .ok f=>match f.rules.find? (nH f) with
    | some r=> .error (r.line,118)
    | none=> .ok f
theorem yA {α:Type} {hd:List Tx} {rd:Nat→List Tx→Except Nat α} {eof:Nat} :∀ (n:Nat) (rows:List Rw) (r:List α×List Rw),group hd rd eof n rows= .ok r→r.2.length≤rows.length∧r.1.length=n∧∀ q∈r.2,q∈rows:=by
 intro n
 induction n with
 | zero=>intro rows r h; simp only [group,sg] at h; subst h; exact ⟨cj _,rfl,fun q a=>a⟩
 | succ n i=>
   intro rows r h
   cases rows with
   | nil=>simp [group] at h
   | cons q rows=>
     obtain ⟨ln,row⟩:=q
     simp only [group] at h
     split at h
     · cases h
     · cases hr:rd ln row with
       | error e=>rw [hr] at h; cases h
       | ok x=>
         rw [hr] at h
         simp only at h
         cases hg:group hd rd eof n rows with
         | error e=>rw [hg] at h; cases h
         | ok j=>
           rw [hg] at h
           simp only [sg] at h
           subst h
           have :=i rows j hg
           refine ⟨by simp only [cM]; omega,by simp only [cM]; omega,fun q a=>uo _<|this.2.2 q a⟩
def iT {α:Type} (hd:List Tx) (rd:Nat→List Tx→Except Nat α) (eof:Nat) (T:Except (Nat×Nat) (List α×List Rw)) (xs:List α) (n:Nat) (rows:List Rw):Prop :=
 T=match group hd rd eof n rows with
  | .error e=> .error e
  | .ok r=> .ok (xs++r.1,r.2)
theorem iT.start {α:Type} {hd:List Tx} {rd:Nat→List Tx→Except Nat α} {eof n:Nat} {rows:List Rw} :iT hd rd eof (group hd rd eof n rows) [] n rows:=by
 unfold iT; cases group hd rd eof n rows <;> rfl
section
variable {α:Type} {hd:List Tx} {rd:Nat→List Tx→Except Nat α} {eof n:Nat} {T:Except (Nat×Nat) (List α×List Rw)} {xs:List α} {rows:List Rw} {ln:Nat} {row:List Tx}
theorem iT.ends (h:iT hd rd eof T xs n []) (hn:0 < n):T= .error (eof,116):=by
 obtain ⟨m,rfl⟩:∃ m,n=m+1:=⟨n - 1,ab⟩
 exact h
theorem iT.other (h:iT hd rd eof T xs n ((ln,row)::rows)) (hn:0 < n) (a:row.take hd.length≠hd):T= .error (ln,116):=by
 obtain ⟨m,rfl⟩:∃ m,n=m+1:=⟨n - 1,ab⟩
 unfold iT at h; simp only [group] at h; rw [if_pos a] at h; exact h
theorem iT.bad {e:Nat} (h:iT hd rd eof T xs n ((ln,row)::rows)) (hn:0 < n) (a:row.take hd.length=hd) (he:rd ln row= .error e):T= .error (ln,e):=by
 obtain ⟨m,rfl⟩:∃ m,n=m+1:=⟨n - 1,ab⟩
 unfold iT at h; simp only [group] at h; rw [if_neg (fun h2=>h2 a),he] at h; exact h
theorem iT.step {x:α} (h:iT hd rd eof T xs n ((ln,row)::rows)) (hn:0 < n) (a:row.take hd.length=hd) (he:rd ln row= .ok x):iT hd rd eof T (xs++ [x]) (n - 1) rows:=by
 obtain ⟨m,rfl⟩:∃ m,n=m+1:=⟨n - 1,ab⟩
 unfold iT at h ⊢; simp only [group] at h; rw [if_neg (fun h2=>h2 a),he] at h
 simp only [sx] at h ⊢
 rw [h]
 cases group hd rd eof m rows with
 | error e=>rfl
 | ok r=>simp only [dC]; rfl
theorem iT.done (h:iT hd rd eof T xs 0 rows):T= .ok (xs,rows):=by
 unfold iT at h; simpa [group] using h
end
end Go.Hb
end
section
set_option linter.unusedSimpArgs false
namespace Go.Hb
open Go.RowKit
open Classical
structure ow (P:Program) (k:TypeId) (isK:Value→Prop):Prop where
 key:xj P k isK
 stays:∀ w v,isK v→(Ee v v).run P w= .ok v w
def jl (v:Value):Prop := ∃ s:List UInt8,v=str s
def pO (q:IntKind) (v:Value):Prop := ∃ a:Int,v= .int q a
theorem HP {d:TypeDesc} {isK:Value→Prop} (hs:∀ x y,isK x→isK y→∃ a,Eg d x y=some a∧(a=true↔x=y)) {x:Value} (C:isK x):∀ (es:List MapEntry) (i:Nat),(∀ e∈es,isK e.key)→
 (wm d x es i=some none∧∀ e∈es,e.key≠x)∨∃ j e,wm d x es i=some (some (i+j,e.val))∧es[j]? =some e∧e.key=x
 | [],i,_=> .inl ⟨rfl,fun _ h=>by simp at h⟩
 | e::es,i,h=>by
   obtain ⟨a,h1,h2⟩:=hs x e.key C<|h e<|by simp
   cases a with
   | true =>exact .inr ⟨0,e,by simp [wm,h1],rfl,(h2.1 rfl).symm⟩
   | false =>
     have G:e.key≠x:=fun E=>by cases h2.2 E.symm
     rcases HP hs C es (i+1) (fun e he=>h e<|by simp [he]) with ⟨h3,h4⟩ | ⟨j,q,h3,h4,h5⟩
     · refine .inl ⟨by simp [wm,h1,h3],fun q A=> ?_⟩
       rcases gl.1 A with rfl | A
       · exact G
       · exact h4 q A
     · refine .inr ⟨j+1,q,?_,h4,h5⟩
       simp only [wm,h1,h3]; rw [show i+1 +j=i+(j+1) from by omega]
theorem Jo {P:Program} {k:TypeId} {d:TypeDesc} {isK:Value→Prop} (hk:P.underlying k=some d) (hs:∀ x y,isK x→isK y→∃ a,Eg d x y=some a∧(a=true↔x=y)) (i:∀ em w v,isK v→(ua em 10000 k v).run P w= .ok () w):xj P k isK where
 check:=i
 find w x es hx hes:=by
  rcases HP hs hx es 0 hes with ⟨h1,h2⟩ | ⟨j,e,h1,h2,h3⟩
  · exact .inl ⟨by simp [zL,eu hk,h1],h2⟩
  · exact .inr ⟨j,e,by simp [zL,eu hk,h1],h2,h3⟩
theorem Fw (a b:ByteArray):(a==b)=decide (a=b):=by
 rw [Bool.eq_iff_iff,decide_eq_true_iff]
 show ((a.data==b.data)=true)↔_
 rw [beq_iff_eq]
 exact ⟨fun h=>by cases a; cases b; cases h; rfl,fun h=>by rw [h]⟩
theorem Vp {P:Program} {k:TypeId} (hk:P.underlying k=some .string):ow P k jl where
 key:=Jo hk (by
  rintro _ _ ⟨a,rfl⟩ ⟨b,rfl⟩
  refine ⟨_,aa,?_⟩
  rw [Fw,decide_eq_true_iff]
  constructor
  · intro h; unfold str; rw [h]
  · intro h; unfold str at h; cases h; rfl) (by rintro em w _ ⟨a,rfl⟩; exact QU (n:=9999) hk w)
 stays w v hv:=by obtain ⟨a,rfl⟩:=hv; simp [Ee,M6,str,Fw]
theorem QT {P:Program} {k:TypeId} {q r:IntKind} {em:Bool} {n:Nat} {a:Int} (hk:P.underlying k=some (.int q)) (w:World):(ua em (n+1) k<|.int r a).run P w= .ok () w:=by
 simp only [ua,Sem.run_bind,eu hk,Result.andThen_ok,Sem.run_pure]
theorem Vo {P:Program} {k:TypeId} {q r:IntKind} (hk:P.underlying k=some (.int q)):ow P k (pO r) where
 key:=Jo hk (by
  rintro _ _ ⟨a,rfl⟩ ⟨b,rfl⟩
  refine ⟨decide (a=b),by simp [Eg]; rfl,?_⟩
  rw [decide_eq_true_iff]
  exact ⟨fun h=>by rw [h],fun h=>by cases h; rfl⟩) (by rintro em w _ ⟨a,rfl⟩; exact QT (n:=9999) hk w)
 stays w v hv:=by obtain ⟨a,rfl⟩:=hv; simp [Ee,M6]
def dq (h:Array Obj) (b:Nat) (isK:Value→Prop) (f:Value→Option Value):Prop :=
 ∃ kvs,rp h b kvs∧(∀ p∈kvs,isK p.1)∧(kvs.map sD).Nodup∧∀ k v,f k=some v↔(k,v)∈kvs
theorem dq.md {F:Nat→Prop} {w w':World} {b:Nat} {isK:Value→Prop} {f:Value→Option Value} (h:dq w.heap b isK f) (hm:Md F w w') (a:¬F b):dq w'.heap b isK f:=
 let ⟨kvs,h1,h2⟩:=h; ⟨kvs,h1.md hm a,h2⟩
theorem dq.wk {w w':World} {b:Nat} {isK:Value→Prop} {f:Value→Option Value} (h:dq w.heap b isK f) (hm:Wk w w'):dq w'.heap b isK f:=h.md hm id
theorem dq.nil {h:Array Obj} {b:Nat} {isK:Value→Prop} {c:Nat} (hm:h[b]? =some (.map #[] c)):dq h b isK fun _=>none:=
 ⟨[],⟨_,_,hm,rfl⟩,fun p hp=>(by simp at hp),(by simp),fun k v=>by simp⟩
theorem dq.isMap {h:Array Obj} {b:Nat} {isK:Value→Prop} {f:Value→Option Value} (hm:dq h b isK f):∃ es c,h[b]? =some (.map es c):=let ⟨_,⟨es,c,h1,_⟩,_⟩:=hm; ⟨es,c,h1⟩
theorem dq.pP {h:Array Obj} {b:Nat} {isK:Value→Prop} {f:Value→Option Value} (hm:dq h b isK f) {cur:Array Value} {e:TypeId} {z:Nat×Nat} :h[b]?≠some (.cells cur e z):=by
 obtain ⟨es,c,h1⟩:=hm.isMap; rw [h1]; intro h; cases h
noncomputable def bS (f:Value→Option Value) (k v:Value):Value→Option Value:=fun q=>if q=k then some v else f q
theorem vE (f:Value→Option Value) (k v:Value):bS f k v k=some v:=if_pos rfl
theorem tE {f:Value→Option Value} {k v q:Value} (h:q≠k):bS f k v q=f q:=if_neg h
section
variable {P:Program} {N:Fm} {σ:Nat→Value} {w:World} {dst:Option Nat} {ty:TypeId} {pos :String} {af:Array Edge} {g:Option (Nat×Bool)} {x y z:Operand} {K:(Nat→Value)→World→Prop}
variable {t k e:TypeId} {isK:Value→Prop} {b:Nat} {f:Value→Option Value} {kx v zv:Value}
theorem JC {ok:Bool} (j:P.underlying t=some (.map k e)) (C:zeroV P e=some zv) (i:ow P k isK) (hm:dq w.heap b isK f) (q:ev N σ x= .map (some b)) (A:ev N σ y=kx) (hi:isK kx):
 (execOp (ev N σ) ⟨dst,.lookup t x y ok,ty,pos,af,g⟩).run P w= .ok (.value (if ok then .tuple #[(f kx).getD zv,.bool (f kx).isSome] else (f kx).getD zv)) w:=by
 obtain ⟨kvs,h1,h2,h3,h4⟩:=hm
 cases hf:f kx with
 | none=>exact VJ j C i.key h1 h2 q A hi fun v a=>by rw [← h4] at a; rw [hf] at a; cases a
 | some v=>exact VI j i.key h1 h2 q A hi h3<|(h4 kx v).1 hf
theorem oK (i:P.underlying t=some (.map k e)) (C:zeroV P e=some zv) (a:ow P k isK) (hm:dq w.heap b isK f) (q:ev N σ x= .map (some b)) (A:ev N σ y=kx) (hi:isK kx) (j:(f kx).getD zv=v):
 (execOp (ev N σ) ⟨dst,.lookup t x y false,ty,pos,af,g⟩).run P w= .ok (.value v) w:=by
 rw [JC i C a hm q A hi,j]; rfl
theorem JD {ob:Bool} (j:P.underlying t=some (.map k e)) (E:zeroV P e=some zv) (a:ow P k isK) (hm:dq w.heap b isK f) (A:ev N σ x= .map (some b)) (C:ev N σ y=kx) (hi:isK kx) (q:(f kx).getD zv=v) (i:(f kx).isSome=ob):
 (execOp (ev N σ) ⟨dst,.lookup t x y true,ty,pos,af,g⟩).run P w= .ok (.value<|.tuple #[v,.bool ob]) w:=by
 rw [JC j E a hm A C hi,q,i]; rfl
theorem Me (ae:P.underlying t=some (.map k e)) (M:ow P k isK) (hm:dq w.heap b isK f) (hi:isK kx):
 ∃ w',(Ef t (.map<|some b) kx v).run P w= .ok () w'∧Md (fun j=>j=b) w w'∧dq w'.heap b isK (bS f kx v):=by
 obtain ⟨kvs,⟨es,c,J,he⟩,h2,h3,h4⟩:=hm
 have V:=(dm.1 J).1
 rcases M.key.find w kx es.toList hi (BC he h2) with ⟨h1,an⟩ | ⟨j,U,h1,E,h5⟩
 · have ac:∀ u,(kx,u)∉kvs:=fun u hu=>by
    rw [← he] at hu
    obtain ⟨ag,ak,ah⟩:=o4.1 hu
    cases ah
    exact an ag ak aa
   refine ⟨{w with heap:=w.heap.setIfInBounds b<|.map (es.push {key:=kx,val:=v,born:=c})<|c+1},by simp [Ef,eu ae,run_getObj_map J,M.key.check _ w kx hi,h1,setObj,zN,J],⟨aa,aa,by simp,fun i _ G=>by simp only; rw [MI (fun e=>G e.symm)]⟩,kvs++ [(kx,v)],⟨_,_,by simp only; rw [MJ V],by simp [he]⟩,?_,?_,?_⟩
   · intro p hp
     rcases jz.1 hp with hp | hp
     · exact h2 p hp
     · rw [jY.1 hp]; exact hi
   · rw [ig,EG]
     refine ⟨h3,by simp,?_⟩
     intro a ai ap Y aj
     simp at Y
     subst aj Y
     obtain ⟨p,hp,ao⟩:=o4.1 ai
     exact ac p.2<|by rw [← ao]; exact hp
   · intro q u
     unfold bS
     rw [jz,jY]
     by_cases C:q=kx
     · subst C
       rw [if_pos rfl]
       constructor
       · intro h; cases h; exact .inr rfl
       · rintro (h | h)
         · exact absurd h<|ac u
         · cases h; rfl
     · rw [if_neg C,h4]
       constructor
       · exact .inl
       · rintro (h | h)
         · exact h
         · cases h; exact absurd rfl C
 · have aq:j < es.size:=by have :=(fJ.1 E).1; simpa using this
   have Z:es[j]? =some U:=by simpa using E
   refine ⟨{w with heap:=w.heap.setIfInBounds b<|.map (es.modify j fun e=> {e with key:=kx,val:=v}) c},?_,⟨aa,aa,by simp,fun i _ G=>by simp only; rw [MI (fun e=>G e.symm)]⟩,kvs.set j (kx,v),⟨_,_,by simp only; rw [MJ V],?_⟩,?_,?_,?_⟩
   · have hs:=M.stays w kx hi
     simp [Ef,eu ae,run_getObj_map J,M.key.check _ w kx hi,h1,Z,h5,hs,setObj,zN,J]
   · rw [← he]
     apply p8
     intro i
     simp only [Array.toList_modify,ic,List.getElem?_modify,kX,fE]
     by_cases I:j=i
     · subst I; rw [E]; simp; have :=(fJ.1 E).1; simpa using this
     · simp [I]
   · intro p hp
     rcases EF hp with hp | hp
     · exact h2 p hp
     · rw [hp]; exact hi
   · have :(kvs.set j (kx,v)).map sD=kvs.map sD:=by
      apply p8
      intro i
      simp only [ic,kX]
      by_cases I:j=i
      · subst I
        rw [← he]; simp only [ic,E,fE]
        have :=(fJ.1 E).1
        simp [this,h5]
        simpa using this
      · simp [I]
     rw [this]; exact h3
   · intro q u
     have O:kvs[j]? =some (kx,U.val):=by rw [← he]; simp [E,h5,Z]
     have ab:=(fJ.1 O).1
     have am:(kx,v)∈kvs.set j (kx,v):=iJ (i:=j)<|by rw [kX,if_pos rfl,if_pos ab]
     unfold bS
     by_cases C:q=kx
     · subst C
       rw [if_pos rfl]
       constructor
       · intro h; cases h; exact am
       · intro h
         obtain ⟨i,A⟩:=wT h
         rw [kX] at A
         split at A
         · rename_i al
           subst al
           cases A; rfl
         · rename_i G
           exfalso
           exact G<|(List.getElem?_inj (i:=j) (j:=i) (by simpa using ab) h3).1<|by simp [O,A]
     · rw [if_neg C,h4]
       constructor
       · intro h
         obtain ⟨i,A⟩:=wT h
         have G:j≠i:=by rintro rfl; rw [O] at A; cases A; exact C rfl
         exact iJ (i:=i)<|by rw [kX,if_neg G]; exact A
       · intro h
         rcases EF h with h | h
         · exact h
         · cases h; exact absurd rfl C
theorem tP (q:P.underlying t=some (.map k e)) (a:ow P k isK) (hm:dq w.heap b isK f) (A:ev N σ x= .map (some b)) (C:ev N σ y=kx) (E:ev N σ z=v) (hi:isK kx)
 (G:∀ w',Md (fun j=>j=b) w w'→dq w'.heap b isK (bS f kx v)→K σ w'):dM P N ⟨none,.mapUpdate t x y z,ty,pos,af,g⟩ σ w K:=by
 obtain ⟨w',h1,h2,h3⟩:=Me (v:=v) q a hm hi
 have i:(execOp (ev N σ) ⟨none,.mapUpdate t x y z,ty,pos,af,g⟩).run P w= .ok .skip w':=by
  simp [execOp,A,C,E,h1]
 unfold dM jW
 rw [gU,i]
 exact ⟨σ,aa,G w' h2 h3⟩
theorem mC (q:P.underlying t=some (.map k e)) (a:ow P k isK) (hm:dq w.heap b isK f) (A:ev N σ x= .map (some b)) (C:ev N σ y=kx) (E:ev N σ z=v) (hi:isK kx)
 (G:∀ w',Md (fun j=>j=b) w w'→dq w'.heap b isK (bS f kx v)→K σ w'):dM P N ⟨none,.insert t x y z,ty,pos,af,g⟩ σ w K:=by
 obtain ⟨w',h1,h2,h3⟩:=Me (v:=v) q a hm hi
 have i:(execOp (ev N σ) ⟨none,.insert t x y z,ty,pos,af,g⟩).run P w= .ok .skip w':=by
  simp [execOp,A,C,E,h1]
 unfold dM jW
 rw [gU,i]
 exact ⟨σ,aa,G w' h2 h3⟩
end
end Go.Hb
end
section
namespace Go.Hb
section
variable {P:Program} {N:Fm} {σ:Nat→Value} {w:World} {fn:Func} {R:Value→World→Prop}
theorem VP {t b off :Nat} {v:Value} (hu:dy P t=some none) (a:Hb.aO w.heap b off =some v):(loadVar t ⟨b,off,none⟩).run P w= .ok v w:=by
 have i:w.cell? ⟨b,off,none⟩=some v:=by rw [nI]; exact a
 unfold dy at hu
 cases hd:P.underlying t with
 | none=>rw [hd] at hu; cases hu
 | some d=>
   rw [hd] at hu
   cases d <;> first
    | (simp only [pc] at hu; obtain ⟨_,_,h⟩:=hu; cases h; done)
    | simp [loadVar,isAgg,eu hd,run_load,i]
theorem VQ {t n b off :Nat} {cs:List Value} (hu:dy P t=some (some n)) (C:cs.length=n) (q:∀ j,j < n→Hb.aO w.heap b (off+j)=cs[j]?):(loadVar t ⟨b,off,none⟩).run P w= .ok (.agg cs.toArray) w:=by
 have A:(loadCells ⟨b,off,none⟩ n).run P w= .ok cs.toArray w:=by
  subst C
  refine run_loadCells_list (P:=P) w ⟨b,off,none⟩ cs fun j v a=> ?_
  rw [mr,nI]
  exact (q j (fJ.1 a).1).trans a
 unfold dy at hu
 cases hd:P.underlying t with
 | none=>rw [hd] at hu; cases hu
 | some d=>
   rw [hd] at hu
   cases hi:P.info? t with
   | none=>simp [Nb,hi] at hd
   | some i=>
     rw [hi] at hu
     cases d <;> first
      | (cases hu; done)
      | (simp only [mh,fL] at hu; subst hu
         simp [loadVar,isAgg,eu hd,sizeOf,jc hi,A])
def nD (P:Program) (N:Fm) (σ:Nat→Value) (w:World):ResultVar→Value→Prop
 | .tmp t,v=>ev N σ (.tmp t)=v
 | .cell a t,v=> ∃ ad,ev N σ (.tmp a)= .pointer (some ad)∧(loadVar t ad).run P w= .ok v w
theorem ea {t:Tmp} :nD P N σ w (.tmp t) (ev N σ<|.tmp t):=rfl
theorem Dp {a t b off :Nat} {v:Value} (j:ev N σ (.tmp a)= .pointer (some ⟨b,off,none⟩)) (hu:dy P t=some none) (i:Hb.aO w.heap b off =some v):nD P N σ w (.cell a t) v:=⟨_,j,VP hu i⟩
theorem dK {a t n b off :Nat} {cs:List Value} (A:ev N σ (.tmp a)= .pointer (some ⟨b,off,none⟩)) (hu:dy P t=some (some n)) (q:cs.length=n) (i:∀ j,j < n→Hb.aO w.heap b (off+j)=cs[j]?):nD P N σ w (.cell a t) (.agg cs.toArray):=⟨_,A,VQ hu q i⟩
def oO (tmps:Array Value):ResultVar→Sem Value
 | .tmp t=>pure<|tmps.getD t undef
 | .cell a t=>do loadVar t (← asAddr (tmps.getD a undef))
theorem nm {r:ResultVar} {v:Value} (h:nD P N σ w r v):(oO (act N σ).tmps r).run P w= .ok v w:=by
 cases r with
 | tmp t=>
   show zN P (pure<|(act N σ).tmps.getD t undef) w=_
   rw [mO]; simp only [nD] at h; rw [h]; rfl
 | cell a t=>
   obtain ⟨ad,h1,h2⟩:=h
   show zN P (do loadVar t (← asAddr ((act N σ).tmps.getD a undef))) w=_
   rw [mO,h1]
   simp [asAddr,h2]
theorem XE {tmps:Array Value} {r:ResultVar} {v:Value} (h:fn.results= #[r]) (h1:(oO tmps r).run P w= .ok v w):(results fn tmps).run P w= .ok v w:=by
 have a:(results fn tmps)=(do let vs ← #[r].mapM (oO tmps); pure (if h:vs.size=1 then vs[0] else .tuple vs)):=by
  unfold results; rw [h]; rfl
 rw [a]; simp [wY,h1]
theorem y0 {tmps:Array Value} {r s:ResultVar} {v u:Value} (h:fn.results= #[r,s]) (h1:(oO tmps r).run P w= .ok v w) (h2:(oO tmps s).run P w= .ok u w):(results fn tmps).run P w= .ok (.tuple #[v,u]) w:=by
 have a:(results fn tmps)=(do let vs ← #[r,s].mapM (oO tmps); pure (if h:vs.size=1 then vs[0] else .tuple vs)):=by
  unfold results; rw [h]; rfl
 rw [a]; simp [wY,h1,h2]
theorem XF {tmps:Array Value} {r s q:ResultVar} {v u z:Value} (h:fn.results= #[r,s,q]) (h1:(oO tmps r).run P w= .ok v w) (h2:(oO tmps s).run P w= .ok u w) (h3:(oO tmps q).run P w= .ok z w):(results fn tmps).run P w= .ok (.tuple #[v,u,z]) w:=by
 have a:(results fn tmps)=(do let vs ← #[r,s,q].mapM (oO tmps); pure (if h:vs.size=1 then vs[0] else .tuple vs)):=by
  unfold results; rw [h]; rfl
 rw [a]; simp [wY,h1,h2,h3]
theorem uV {r:ResultVar} {v:Value} (h:fn.results= #[r]) (h1:nD P N σ w r v) (a:R v w):fin P fn N R .ret σ w:=⟨v,XE h (nm h1),a⟩
theorem eo {r s:ResultVar} {v u:Value} (h:fn.results= #[r,s]) (h1:nD P N σ w r v) (h2:nD P N σ w s u) (a:R (.tuple #[v,u]) w):fin P fn N R .ret σ w:=⟨_,y0 h (nm h1) (nm h2),a⟩
theorem HJ {r s q:ResultVar} {v u z:Value} (h:fn.results= #[r,s,q]) (h1:nD P N σ w r v) (h2:nD P N σ w s u) (h3:nD P N σ w q z) (a:R (.tuple #[v,u,z]) w):fin P fn N R .ret σ w:=⟨_,XF h (nm h1) (nm h2) (nm h3),a⟩
end
end Go.Hb
end
section
namespace Go.Hb
open Go.RowKit
def oa (P:Program) (N:Fm) (c:Code) (B:Exit→Act→World→Prop) (σ:Nat→Value) (w:World):Prop :=c.wpIn (fe N.r) 0 P B (act N σ) w
def qb (N:Fm) (B:Exit→Act→World→Prop):Exit→(Nat→Value)→World→Prop :=fun e σ w=>B e (act N σ) w
section
variable {P:Program} {N:Fm} {B:Exit→Act→World→Prop} {σ:Nat→Value} {w:World}
theorem eU {x y:Code} (h:oa P N x (Exit.then (y.wpIn (fe N.r) 0 P B) B) σ w):oa P N (.seq x y) B σ w:=wpIn_seq h
theorem eN {y:Code} (h:oa P N y B σ w):qb N (Exit.then (y.wpIn (fe N.r) 0 P B) B) .normal σ w:=h
theorem prt {y:Act→World→Prop} (h:qb N B .ret σ w):qb N (Exit.then y B) .ret σ w:=h
theorem rY (h:qb N B .ret σ w):oa P N .ret B σ w:=wpIn_ret h
theorem fj {c:Code} (h:dW P N c (qb N B) σ w):oa P N c B σ w:=by
 unfold dW at h
 refine wpIn_mono h ?_
 intro e a w i
 cases e with
 | panic c=>obtain ⟨σ,rfl,j⟩:=i; exact j σ fun _ _=>rfl
 | outgrown=>exact i.elim
 | _=>obtain ⟨σ,rfl,j⟩:=i; exact j
end
theorem y4 (fn:Func) (args:List Value) (F:List Nat) (hn:o5 args.length fn.ntmps=true):({tmps:=args.toArray++tY (fn.ntmps - args.toArray.size) undef,defers:= []} :Act)=act ⟨fn.ntmps,[],F,none⟩ (mL args):=by
 have a:args.length≤fn.ntmps:=by simpa using hn
 refine xq aa fun i=> ?_
 rw [pz]
 simp only [mL,cQ,oo]
 by_cases h1:i < args.length
 · rw [Array.getElem?_append_left (by simpa using h1),if_pos ab]
   simp [h1]
 · rw [Array.getElem?_append_right (by simpa using h1)]
   simp only [oo,Array.getElem?_replicate]
   by_cases h2:i < fn.ntmps
   · rw [if_pos ab,if_pos h2,List.getElem?_eq_none ab]; rfl
   · rw [if_neg ab,if_neg h2]
abbrev Bm (P:Program) (fn:Func) (R:Value→World→Prop):Exit→Act→World→Prop :=bodyPostM jg 0 P fn (fun e w'=> ∃ v,e= .returned v∧R v w')
theorem xV {P:Program} {f:FuncId} {N:Nat} {fn:Func} {c:Code} {args:List Value} {w:World} {R:Value→World→Prop} (F:List Nat) (j:P.funcs[f]? =some fn) (i:fn.body=some c)
 (a:fn.ntmps=N) (hn:o5 args.length N=true) (h:oa P ⟨N,[],F,none⟩ c (Bm P fn R) (mL args) w):bh P f args.toArray w R:=by
 subst a
 refine callsIn_wide.1<|callsIn_of_wp_marks (F:=jg) (n:=0) j i trivial ?_
 rw [y4 fn args F hn]
 exact h
section
variable {P:Program} {n:Nat} {F:List Nat} {σ:Nat→Value} {w:World} {fn:Func} {R:Value→World→Prop}
theorem Jv {e:Exit} (he:e= .ret∨e= .normal) {v:Value} (i:(results fn (act ⟨n,[],F,none⟩ σ).tmps).run P w= .ok v w) (a:R v w):qb ⟨n,[],F,none⟩ (Bm P fn R) e σ w:=by
 rcases he with rfl | rfl <;> exact ⟨v,i,v,rfl,a⟩
theorem HG {t:Nat} {v:Value} (h:fn.results= #[.tmp t]) (i:ev ⟨n,[],F,none⟩ σ (.tmp t)=v) (a:R v w):qb ⟨n,[],F,none⟩ (Bm P fn R) .ret σ w:=
 Jv (.inl rfl) (by rw [results_tmp h,mO,i]) a
theorem HH {t u:Nat} {v a:Value} (h:fn.results= #[.tmp t,.tmp u]) (j:ev ⟨n,[],F,none⟩ σ (.tmp t)=v) (hu:ev ⟨n,[],F,none⟩ σ (.tmp u)=a) (i:R (.tuple #[v,a]) w):qb ⟨n,[],F,none⟩ (Bm P fn R) .ret σ w:=
 Jv (.inl rfl) (by rw [results_tmp2 h,mO,mO,j,hu]) i
theorem Jw {D:Nat} {v:Value} (a:w.heap[D]? =some (.deferred<|some [])) (j:∀ w',(results fn (act ⟨n,[{target:= .collected D,args:= #[]}],F,none⟩ σ).tmps).run P w'= .ok v w') (i:R v (w.putObj D<|.deferred none)):
 qb ⟨n,[{target:= .collected D,args:= #[]}],F,none⟩ (Bm P fn R) .ret σ w:=
 ⟨FrameMode.noConfusion,.inl ⟨_,_,rfl,run_takeDeferred a,⟨v,j _,v,rfl,i⟩⟩⟩
theorem x3 {D t:Nat} {v:Value} (h:fn.results= #[.tmp t]) (j:ev ⟨n,[{target:= .collected D,args:= #[]}],F,none⟩ σ (.tmp t)=v) (a:w.heap[D]? =some (.deferred<|some [])) (i:R v (w.putObj D<|.deferred none)):
 qb ⟨n,[{target:= .collected D,args:= #[]}],F,none⟩ (Bm P fn R) .ret σ w:=
 Jw a (fun w'=>by rw [results_tmp h,mO,j]) i
theorem HI {D t u:Nat} {v a:Value} (h:fn.results= #[.tmp t,.tmp u]) (q:ev ⟨n,[{target:= .collected D,args:= #[]}],F,none⟩ σ (.tmp t)=v) (hu:ev ⟨n,[{target:= .collected D,args:= #[]}],F,none⟩ σ (.tmp u)=a)
 (i:w.heap[D]? =some (.deferred<|some [])) (j:R (.tuple #[v,a]) (w.putObj D<|.deferred none)):qb ⟨n,[{target:= .collected D,args:= #[]}],F,none⟩ (Bm P fn R) .ret σ w:=
 Jw i (fun w'=>by rw [results_tmp2 h,mO,mO,q,hu]) j
end
theorem dw {w:World} {B t size n pp a:Nat} {v:Value} {xs:List Value} {cs:Array Value} {z:Nat×Nat} (h:w.ownsRow B t size v n xs) (hp:w.heap[pp]? =some (.cells cs a z)) (j:t≠a):v.ownBlock≠some pp:=by
 intro hk
 rcases h.2 with ⟨h1,_⟩ | ⟨g,cap,cur,h1,_,i,_⟩
 · rw [h1] at hk; simp [iH] at hk
 · rw [h1] at hk
   simp only [iH,fL] at hk
   subst hk
   rw [i] at hp
   simp only [fL,wq] at hp
   exact j hp.2.1
section
variable {P:Program} {N:Fm} {σ:Nat→Value} {w:World} {dst:Option Nat} {ty:TypeId} {pos :String} {af:Array Edge} {g:Option (Nat×Bool)} {x:Operand} {K:(Nat→Value)→World→Prop}
theorem uI {e:TypeId} {v:Value} (a:ev N σ x=v) (h1:v.oneCell'=true) (k:∀ b w',b=w.heap.size→Nw w w'→w'.heap[b]? =some (.cells [v].toArray e (0,0))→K (iF σ dst<|.pointer<|some ⟨b,0,none⟩) w'):
 dM P N ⟨dst,.box e x,ty,pos,af,g⟩ σ w K:=by
 refine oS (v:=fun b=> .pointer<|some ⟨b,0,none⟩) (ob:= .cells [v].toArray e (0,0)) ?_ k
 have :=qN h1
 simp [execOp,Instr.box,a,this,newVar,newRow]
end
theorem lg (w:World) (k:Nat) (o:Obj):Md (fun j=>j=k) w (w.putObj k o):=
 ⟨rfl,rfl,by simp [Nk],fun j _ a=>oZ a⟩
def fM (w w':World):Prop := ∀ (k:Nat) (o:Obj),w.heap[k]? =some o→(∀ cur e z,o≠.cells cur e z)→w'.heap[k]? =some o
theorem fM.trans {a b c:World} (h:fM a b) (i:fM b c):fM a c:=fun k o j hn=>i k o (h k o j hn) hn
theorem fM.md {F:Nat→Prop} {w w':World} (hm:Md F w w') (i:∀ k,F k→∃ cur e z,w.heap[k]? =some (.cells cur e z)):fM w w':=fun k o a hn=>by
 rw [hm.cy k (dm.1 a).1 (fun hk=>by obtain ⟨c,e,z,h⟩:=i k hk; rw [a] at h; exact hn _ _ _<|rj h)]; exact a
theorem fM.wk {w w':World} (hm:Wk w w'):fM w w':=fM.md hm fun _ h=>h.elim
theorem mF {w:World} {B e size n:Nat} {v:Value} {xs:List Value} (h:w.ownsRow B e size v n xs):∀ k,v.ownBlock=some k→∃ cur e z,w.heap[k]? =some (.cells cur e z):=by
 intro k hk
 rcases h.2 with ⟨rfl,_⟩ | ⟨g,cap,i,rfl,_,a,_⟩
 · simp [iH] at hk
 · simp only [iH,fL] at hk; subst hk; exact ⟨_,_,_,a⟩
def Oe {α:Type} (B:Nat) (a:List α→World→Prop):Prop := ∀ pre W W' (F:Nat→Prop),a pre W→Md F W W'→(∀ k,F k→B≤k∧∀ cur e z,W.heap[k]?≠some (.cells cur e z))→a pre W'
section
variable {F:Nat→Prop} {W W':World} {B:Nat}
theorem zh {b e:Nat} {cs:Array Value} {z:Nat×Nat} (h:W.heap[b]? =some (.cells cs e z)) (hm:Md F W W') (a:∀ k,F k→B≤k∧∀ cur e z,W.heap[k]?≠some (.cells cur e z)):W'.heap[b]? =some (.cells cs e z):=by
 rw [hm.cy b (dm.1 h).1 (fun hk=>(a b hk).2 _ _ _ h)]; exact h
theorem LF {B' e size n:Nat} {v:Value} {xs:List Value} (h:W.ownsRow B' e size v n xs) (hm:Md F W W') (a:∀ k,F k→B≤k∧∀ cur e z,W.heap[k]?≠some (.cells cur e z)):W'.ownsRow B' e size v n xs:=
 db h hm fun k hk i=>by obtain ⟨c,e,z,h1⟩:=mF h k hk; exact (a k i).2 _ _ _ h1
theorem LG {w:World} (h:Wk w W) (hm:Md F W W') (j:w.heap.size≤B) (a:∀ k,F k→B≤k∧∀ cur e z,W.heap[k]?≠some (.cells cur e z)):Wk w W':=Md.trans' h hm fun k hk i=>by have :=(a k i).1; omega
end
def EO {α:Type} (P:Program) (C:Nat) (E:Array Value) (A:α→Array Value) (xs:List α) (q:World→Prop):Prop :=
 ∀ (l:Nat) (a:List α→World→Prop) (W:World),a [] W→(∀ pre W,a pre W→q W)→(∀ pre i j,a pre i→Wk i j→a pre j)→
   (∀ pre x rest i,xs=pre++x::rest→a pre i→YieldAt jg 0 P l (A x) i fun e W'=>e= .returned (.bool true)∧a (pre++ [x]) W')→
   Calls P C (#[.func (.yield l) #[] #[]]++E) W fun e W'=>(∃ v,e= .returned v)∧a xs W'
def Xw (R:World→Prop):Exit→(Nat→Value)→World→Prop
 | .normal,_,w=>R w
 | _,_,_=>False
theorem EX (N:Fm):∀ (l:List (Tmp×Value)) (σ:Nat→Value),l.foldl (fun t p=>t.setIfInBounds p.1 p.2) (act N σ).tmps=(act N<|l.foldl (fun s p=>dD s p.1 p.2) σ).tmps:=by
 intro l
 induction l with
 | nil=>intro σ; rfl
 | cons p l a=>
   intro σ
   rw [sv,sv,← a]
   congr 1
   have :=congrArg Act.tmps<|jH N σ (some p.1) p.2
   exact this
theorem KV {α:Type} {P:Program} {id n:Nat} {g:Operand} {ps:Array Tmp} {Y body:Code} {O:List Nat} {σ:Nat→Value} {w:World} {B:Exit→Act→World→Prop} {U:Nat} {V:Array Value}
 (I:α→Array Value) (xs:List α) (ai:World→Prop) (i:List α→World→Prop) (aC:ev ⟨n,[],O,none⟩ σ g= .func (.func U) #[] V) (az:bg P U) (aJ:∀ x,(I x).size=ps.size)
 (aE:EO P U V I xs ai) (ar:i [] w) (aA:∀ pre W,i pre W→ai W) (Z:Oe w.heap.size i) (ao:α→Nat→Value)
 (ax:∀ (l:Nat) (x:α) (W:World) (K:(Nat→Value)→World→Prop),K (ao x) W→dW P ⟨n,[],[],some l⟩ Y (mN K fun _ _ _=>False) ((ps.toList.zip (I x).toList).foldl (fun s p=>dD s p.1 p.2) σ) W)
 (ay:∀ (l:Nat) (pre:List α) (x:α) (rest:List α) (W:World),xs=pre++x::rest→i pre W→dW P ⟨n,[],[],some l⟩ body (Xw fun W'=>fM W W'∧i (pre++ [x]) W') (ao x) W)
 (hd:∀ (D:Nat) (W:World),w.heap.size≤D→i xs W→W.heap[D]? =some (.deferred<|some [])→qb ⟨n,[{target:= .collected D,args:= #[]}],O,none⟩ B .normal σ W):
 oa P ⟨n,[],O,none⟩ (.block id<|.rangeFunc g ps Y body) B σ w:=by
 refine wpIn_block<|wpIn_rangeFunc ?_
 intro fn _
 obtain ⟨rc,M⟩:∃ rc:LoopState→Option Code→Loop,rc=fun st aM=> {state:=st,pending:=aM,fn,tmps:=(act ⟨n,[],O,none⟩ σ).tmps,params:=ps,assign:=Y,body,defers:=w.heap.size} :=⟨_,rfl⟩
 obtain ⟨j,ac⟩:∃ j,(w.alloc<|.deferred<|some []).alloc (.loop<|rc .ready none)=j:=⟨_,rfl⟩
 have aw:j.heap[w.heap.size+1]? =some (.loop<|rc .ready none):=by
  rw [← ac]; have :=zR (w.alloc<|.deferred<|some []) (.loop<|rc .ready none); rwa [Nl] at this
 have av:j.heap[w.heap.size]? =some (.deferred<|some []):=by
  rw [← ac]; exact (Below.heap_alloc _ _ _<|by simp).trans<|zR w _
 have hn:∀ (W:World) (o:Obj),Wk W (W.alloc o):=fun W o=>(CW W o).md
 have au:i [] j:=by rw [← ac]; exact Z _ _ _ _ (Z _ _ _ _ ar (hn _ _) fun _ h=>h.elim) (hn _ _) fun _ h=>h.elim
 have aB:(act ⟨n,[],O,none⟩ σ).eval g= .func (.func U) #[] V:=by rw [gU]; exact aC
 refine ⟨w.heap.size+1,[{target:= .collected w.heap.size,args:= #[]}],j,{target:= .fn (.func U) V,args:= #[.func (.yield<|w.heap.size+1) #[] #[]]},j,U,
  #[.func (.yield<|w.heap.size+1) #[] #[]]++V,j,?_,?_,fun _ _=>trivial,?_,fun aq=>(by cases aq),?_⟩
 · rw [← ac,M]; exact run_enterLoop_outer _ _ _ _ _
 · simp only [resolve,aB]
   simp [go_sem]
 · have :=az (#[.func (.yield<|w.heap.size+1) #[] #[]]++V) j
   simp [invoke,go_sem,this]
 · have ag:∀ (pre:List α) (W:World) (o ah:Obj),i pre W→W.heap[w.heap.size+1]? =some o→(∀ cur e z,o≠.cells cur e z)→i pre (W.putObj (w.heap.size+1) ah):=fun pre W o ah h1 h2 h3=>
    Z _ _ _ _ h1 (lg W _ ah) fun k hk=>⟨ab,fun cur e z h4=>by subst hk; rw [h2] at h4; exact h3 _ _ _<|rj h4⟩
   refine callsIn_wide.2 (lO (aE (w.heap.size+1)
    (fun pre W=>i pre W∧W.heap[w.heap.size+1]? =some (.loop<|rc .ready none)∧W.heap[w.heap.size]? =some (.deferred<|some []))
    j ⟨au,aw,av⟩ (fun pre W h=>aA pre W h.1)
    (fun pre A C h hm=>⟨Z _ _ _ _ h.1 hm (fun _ h=>h.elim),(hm.cy _ (dm.1 h.2.1).1 fun h=>h).trans h.2.1,(hm.cy _ (dm.1 h.2.2).1 fun h=>h).trans h.2.2⟩) ?_) ?_)
   · rintro pre x rest W aL ⟨hi,J,hk⟩
     have aI:w.heap.size+1 < W.heap.size:=(dm.1 J).1
     have am:=run_yield (P:=P) (args:=I x) J<|by rw [M]; exact aJ x
     rw [M] at am
     refine ⟨fn,_,Y,body,am,roundIn_of_wpIn (F:=jg) trivial ?_⟩
     have aK:((ps.zip<|I x).foldl (fun tmps (p:Tmp×Value)=>tmps.setIfInBounds p.1 p.2) (act ⟨n,[],O,none⟩ σ).tmps)=(act ⟨n,[],[],some<|w.heap.size+1⟩<|(ps.toList.zip (I x).toList).foldl (fun s p=>dD s p.1 p.2) σ).tmps:=by
      rw [← MH,ML]
      exact EX ⟨n,[],[],some<|w.heap.size+1⟩ _ σ
     have h1:=ax (w.heap.size+1) x W (fun G W'=> ∃ an,(M2<|w.heap.size+1).run P W'= .ok () an∧
      body.wpIn (jg.inRound<|w.heap.size+1) 0 P (roundPost P (w.heap.size+1) fun e W'=>e= .returned (.bool true)∧i (pre++ [x]) W'∧W'.heap[w.heap.size+1]? =some (.loop<|rc .ready none)∧W'.heap[w.heap.size]? =some (.deferred<|some [])) (act ⟨n,[],[],some<|w.heap.size+1⟩ G) an) ?_
     · unfold dW at h1
       have ap:({tmps:=(ps.zip<|I x).foldl (fun tmps (p:Tmp×Value)=>tmps.setIfInBounds p.1 p.2) (act ⟨n,[],O,none⟩ σ).tmps,defers:= []} :Act)=act ⟨n,[],[],some<|w.heap.size+1⟩ ((ps.toList.zip (I x).toList).foldl (fun s p=>dD s p.1 p.2) σ):=by rw [aK]; rfl
       rw [ap]
       refine wpIn_mono h1 ?_
       intro e a w' q
       cases e with
       | normal=>obtain ⟨G,rfl,E⟩:=q; exact E
       | panic c=>obtain ⟨G,rfl,E⟩:=q; exact E G fun _ _=>rfl
       | outgrown=>exact q.elim
       | _=>obtain ⟨G,rfl,E⟩:=q; exact E
     refine ⟨_,run_beginRound J (by rw [M]),?_⟩
     have aH:(W.putObj (w.heap.size+1)<|.loop {rc .ready none with state:= .busy}).heap[w.heap.size+1]? =some (.loop {rc .ready none with state:= .busy}):=zS aI
     have aF:(W.putObj (w.heap.size+1)<|.loop {rc .ready none with state:= .busy}).heap[w.heap.size]? =some (.deferred<|some []):=(oZ ab).trans hk
     have h2:=ay (w.heap.size+1) pre x rest _ aL<|ag _ _ _ (.loop {rc .ready none with state:= .busy}) hi J fun _ _ _ h=>by cases h
     unfold dW at h2
     refine wpIn_mono h2 ?_
     intro e a aO q
     cases e with
     | normal=>
       obtain ⟨G,rfl,aj,aD⟩:=q
       have ae:=aj _ _ aH fun _ _ _ h=>by cases h
       have aG:=aj _ _ aF fun _ _ _ h=>by cases h
       have ak:=run_endRound (P:=P) none ae
       rw [M] at ak ae ⊢
       exact ⟨_,_,ak,aa,ag _ _ _ _ aD ae (fun _ _ _ h=>by cases h),zS (dm.1 ae).1,(oZ ab).trans aG⟩
     | panic c=>obtain ⟨G,rfl,E⟩:=q; exact (E G fun _ _=>rfl).elim
     | outgrown=>exact q.elim
     | _=>obtain ⟨G,rfl,E⟩:=q; exact E.elim
   · rintro e aN ⟨⟨v,rfl⟩,hi,J,hk⟩
     have al:=run_endLoop (P:=P) J<|by rw [M]; simp
     rw [M] at al
     refine ⟨none,_,al,?_⟩
     rw [M] at J
     exact hd w.heap.size _ (cj _) (ag _ _ _ _ hi J fun _ _ _ h=>by cases h)<|(oZ ab).trans hk
section
variable {P:Program} {N:Fm} {ops:Array Oper} {Q:Exit→(Nat→Value)→World→Prop} {rest:List Oper} {σ:Nat→Value} {w:World} {d':Option Nat} {d:Nat} {op:Op} {ty:TypeId} {pos :String} {af:Array Edge} {v:Value}
def oR (P:Program) (N:Fm) (ops:Array Oper) (Q:Exit→(Nat→Value)→World→Prop) (l:List Oper) (σ:Nat→Value) (w:World):Prop :=wpListIn (fe N.r) 0 P ops (lift N Q) l (act N σ) w
theorem Xr {id:Nat} {l:List Oper} (h:oR P N l.toArray Q l σ w):dW P N (.region id l.toArray false) Q σ w:=by
 unfold dW; exact wpIn_region_lit h
theorem Wf (h:Q .normal σ w):oR P N ops Q [] σ w:=⟨σ,rfl,h⟩
def CR (o:Op):Bool:=match o with | .defer _=>false | _=>true
theorem Wi {o:Op} (h:CR o=true):∀ c,o≠.defer c:=fun c e=>by subst e; cases h
theorem ey (hn:CR op=true) (h:dM P N ⟨d',op,ty,pos,af,none⟩ σ w (fun σ w=>oR P N ops Q rest σ w)):oR P N ops Q (⟨d',op,ty,pos,af,none⟩::rest) σ w:=by
 unfold oR wpListIn
 rw [if_pos (jO _ rfl _)]
 refine ⟨fun f _=>x4 _ f,?_⟩
 rw [BG,Na _ _ _ (Wi hn)]
 unfold dM jW at h
 generalize (execOp (act N σ).eval ⟨d',op,ty,pos,af,none⟩).run P w=x at h ⊢
 cases x with
 | ok n w'=>
   cases n <;> simp only [kW,q4] at h ⊢ <;>
    first
     | (obtain ⟨j,i,hk⟩:=h; rw [i]; exact hk)
     | (refine ⟨fun a=>(by rw [uW] at a; cases a),Ec (HK h) fun e w'' he=> ?_⟩
        cases e with
        | returned v=>obtain ⟨j,i,hk⟩:=he; simp only; rw [i]; exact hk
        | panicked c=>exact he.elim
        | outgrown=>obtain ⟨_,_,q⟩:=he; exact q.elim)
     | (refine ⟨fun a=>(by rw [uW] at a; cases a),Es (BH h) fun v w'' he=> ?_⟩
        obtain ⟨j,i,hk⟩:=he; rw [i]; exact hk)
 | halt x w'=>cases x <;> simp only [kW] at h
theorem py (hn:CR op=true) (h:(execOp (ev N σ) ⟨some d,op,ty,pos,af,none⟩).run P w= .ok (.value v) w) (k:oR P N ops Q rest (dD σ d v) w):oR P N ops Q (⟨some d,op,ty,pos,af,none⟩::rest) σ w:=
 ey hn (oc h k)
theorem ZG {l:Nat} {fo:Operand} {args:Array Operand} {i:Array TypeId} {L:List Value} {R:World→Prop} (E:ev N σ fo= .func (.yield l) #[] #[]) (A:args.toList.map (ev N σ)=L)
 (I:YieldAt jg 0 P l L.toArray w fun e W'=>e= .returned (.bool true)∧R W') (k:∀ W',R W'→oR P N ops Q rest (dD σ d<|.bool true) W'):
 oR P N ops Q (⟨some d,.call ⟨.value fo,args,i⟩,ty,pos,af,none⟩::rest) σ w:=by
 obtain ⟨fn,tmps,a,b,C,q⟩:=I
 unfold oR wpListIn
 rw [if_pos (jO _ rfl _)]
 refine ⟨fun f _=>x4 _ f,?_⟩
 rw [BG,Na _ _ _ (fun c e=>by cases e),gU]
 have hm:args.map (ev N σ)=L.toArray:=by rw [← A,← nv]
 have G:(execOp (ev N σ) ⟨some d,.call ⟨.value fo,args,i⟩,ty,pos,af,none⟩).run P w= .ok (.round l fn tmps a b) w:=by
  simp [execOp,resolve,E,qY,invoke,hm,C]
 rw [G]
 simp only [q4]
 refine ⟨fun j=>(by rw [uW] at j; cases j),?_⟩
 have h1:RoundIn (fe N.r) (0 - 1) P l fn tmps a b w fun e W'=>e= .returned (.bool true)∧R W':=by
  cases hr:N.r with
  | none=>exact q
  | some k=>exact q
 refine Ep h1 ?_
 rintro e W' ⟨rfl,hw⟩
 simp only
 rw [jH]
 exact k W' hw
end
end Go.Hb
end
section
namespace Go.Hb
open Go.RowKit
def fw (P:Program) (f:FuncId) (args:Array Value) (w:World) (R:Value→World→Prop) (Pn:List PanicEntry→World→Prop):Prop :=
 Calls P f args w fun e w'=>(∃ v,e= .returned v∧R v w')∨∃ c,e= .panicked c∧Pn c w'
def HN (P:Program) (fn:Func) (N:Fm) (R:Value→World→Prop) (Pn:List PanicEntry→World→Prop):Exit→(Nat→Value)→World→Prop
 | .normal,σ,w=> ∃ v,(results fn (act N σ).tmps).run P w= .ok v w∧R v w
 | .ret,σ,w=> ∃ v,(results fn (act N σ).tmps).run P w= .ok v w∧R v w
 | .panic c,_,w=>Pn c w
 | _,_,_=>False
theorem jM {P:Program} {fn:Func} {N:Fm} {R:Value→World→Prop} {Pn:List PanicEntry→World→Prop} {e:Exit} {σ:Nat→Value} {w:World} (h:fin P fn N R e σ w):HN P fn N R Pn e σ w:=by
 cases e <;> first | exact h | exact h.elim
theorem j8 {P:Program} {f:FuncId} {N:Nat} {fn:Func} {c:Code} {args:List Value} {w:World} {R:Value→World→Prop} {Pn:List PanicEntry→World→Prop} (G:P.funcs[f]? =some fn) (E:fn.body=some c)
 (C:fn.ntmps=N) (hn:o5 args.length N=true) (h:dW P ⟨N,[],[],none⟩ c (HN P fn ⟨N,[],[],none⟩ R Pn) (mL args) w):fw P f args.toArray w R Pn:=by
 subst C
 refine calls_of_wp G E ?_
 rw [y4 fn args [] hn]
 unfold dW at h
 refine MU ?_<|wpIn_wide.1 h
 intro e a w i
 cases e with
 | normal=>obtain ⟨σ,rfl,v,A,q⟩:=i; exact ⟨rfl,v,A,.inl ⟨v,rfl,q⟩⟩
 | ret=>obtain ⟨σ,rfl,v,A,q⟩:=i; exact ⟨rfl,v,A,.inl ⟨v,rfl,q⟩⟩
 | exit id=>obtain ⟨σ,rfl,j⟩:=i; exact j.elim
 | goto l=>obtain ⟨σ,rfl,j⟩:=i; exact j.elim
 | panic c=>obtain ⟨σ,rfl,j⟩:=i; exact ⟨rfl,.inr ⟨c,rfl,j σ fun _ _=>rfl⟩⟩
 | outgrown=>exact i.elim
section
variable {P:Program} {N:Fm} {Q:Exit→(Nat→Value)→World→Prop} {σ:Nat→Value} {w:World} {ops:Array Oper} {rest:List Oper} {dst:Option Nat} {ty:TypeId} {pos :String} {af:Array Edge} {g:Option (Nat×Bool)} {x:Operand}
def oT (P:Program) (N:Fm) (o:Oper) (σ:Nat→Value) (w:World) (K:(Nat→Value)→World→Prop) (Pn:List PanicEntry→World→Prop):Prop :=
 jW P o (act N σ) w (fun a w=> ∃ σ,a=act N σ∧K σ w) (fun e a w=>match e with | .panic c=>a=act N σ∧Pn c w | _=>False)
theorem zA {o:Oper} {K:(Nat→Value)→World→Prop} {Pn:List PanicEntry→World→Prop} {j:Act→World→Prop} (h:oT P N o σ w K Pn) (hk:∀ σ w,K σ w→j (act N σ) w) (hp:∀ c w',Pn c w'→∀ C,(∀ i∈N.F,C i=σ i)→Q (.panic c) C w'):o.wp P (act N σ) w j (lift N Q):=by
 unfold oT at h
 unfold jW at*
 generalize (execOp (act N σ).eval o).run P w=r at h ⊢
 have q:∀ a w,(∃ σ,a=act N σ∧K σ w)→j a w:=by rintro a w ⟨σ,rfl,h⟩; exact hk _ _ h
 have A:∀ c (a:Act) w',(a=act N σ∧Pn c w')→lift N Q (.panic c) a w':=by rintro c a w' ⟨rfl,h⟩; exact ⟨σ,rfl,hp c w' h⟩
 cases r with
 | ok n w'=>
   cases n <;> simp only [kW] at h ⊢ <;>
    first
     | exact q _ _ h
     | exact lO h (fun e w'' he=>by
      cases e with
      | returned v=>exact q _ _ he
      | panicked c=>exact A _ _ _ ⟨rfl,he.2⟩
      | outgrown=>obtain ⟨_,_,E⟩:=he; exact E.elim)
     | exact Er h fun _ _ he=>q _ _ he
 | halt x w'=>cases x <;> simp only [kW] at h ⊢ <;> exact A _ _ _ ⟨rfl,h.2⟩
theorem dN {f:FuncId} {args:Array Operand} {a:Array TypeId} {L:List Value} {R:Value→World→Prop} {Pn:List PanicEntry→World→Prop} {K:(Nat→Value)→World→Prop} (A:bg P f) (C:fw P f L.toArray w R Pn) (i:args.toList.map (ev N σ)=L)
 (k:∀ v w',R v w'→K (iF σ dst v) w'):oT P N ⟨dst,.call ⟨.value (.func f),args,a⟩,ty,pos,af,g⟩ σ w K Pn:=by
 unfold oT jW
 have hm:args.map (ev N σ)=L.toArray:=by rw [← i,← nv]
 have E:(execOp (ev N σ) ⟨dst,.call ⟨.value (.func f),args,a⟩,ty,pos,af,g⟩).run P w= .ok (.enter f L.toArray) w:=by
  have h2:=A L.toArray w
  simp [execOp,resolve,ev,qY,invoke,hm,h2]
 rw [gU,E]
 simp only [kW]
 refine lO C ?_
 rintro e w' (⟨v,rfl,q⟩ | ⟨c,rfl,j⟩)
 · exact ⟨_,jH ..,k v w' q⟩
 · exact ⟨trivial,j⟩
theorem Mt {f:FuncId} {fo:Operand} {first cap:Array Value} {args:Array Operand} {a:Array TypeId} {L:List Value} {R:Value→World→Prop} {Pn:List PanicEntry→World→Prop} {K:(Nat→Value)→World→Prop} (A:bg P f) (E:ev N σ fo= .func (.func f) first cap) (C:fw P f L.toArray w R Pn) (i:first.toList++args.toList.map (ev N σ)++cap.toList=L)
 (k:∀ v w',R v w'→K (iF σ dst v) w'):oT P N ⟨dst,.call ⟨.value fo,args,a⟩,ty,pos,af,g⟩ σ w K Pn:=by
 unfold oT jW
 have hm:first++args.map (ev N σ)++cap=L.toArray:=by rw [← i]; simp
 have G:(execOp (ev N σ) ⟨dst,.call ⟨.value fo,args,a⟩,ty,pos,af,g⟩).run P w= .ok (.enter f L.toArray) w:=by
  have h2:=A L.toArray w
  simp only [execOp,resolve,E,qY,invoke]
  simp [hm,h2]
 rw [gU,G]
 simp only [kW]
 refine lO C ?_
 rintro e w' (⟨v,rfl,q⟩ | ⟨c,rfl,j⟩)
 · exact ⟨_,jH ..,k v w' q⟩
 · exact ⟨trivial,j⟩
theorem eP {o:Oper} {Pn:List PanicEntry→World→Prop} (j:o.guard=none) (h:oT P N o σ w (fun σ w=>e7 P N ops Q rest σ w) Pn) (hp:∀ c w',Pn c w'→∀ a,(∀ i∈N.F,a i=σ i)→Q (.panic c) a w'):e7 P N ops Q (o::rest) σ w:=by
 unfold e7 wpList
 rw [if_pos (jO o j _)]
 refine .inl<|zA h (fun σ w hk=> ?_) hp
 unfold e7 at hk; exact hk
theorem WX {t:TypeId} {v:Value} (q:ev N σ x= .iface t v) (hp:∀ a,(∀ i∈N.F,a i=σ i)→Q (.panic [{v:= .iface t v,recovered:=false}]) a w):e7 P N ops Q (⟨dst,.panic x,ty,pos,af,none⟩::rest) σ w:=by
 unfold e7 wpList
 rw [if_pos (jO _ rfl _)]
 refine .inl ?_
 unfold jW
 have j:(execOp (ev N σ) ⟨dst,.panic x,ty,pos,af,none⟩).run P w= .halt (.panic<|.iface t v) w:=by
  simp [execOp,q,Instr.panic]
 rw [gU,j]
 exact ⟨σ,aa,hp⟩
theorem V1 {t:TypeId} {d:TypeDesc} {v:Value} (hu:P.underlying t=some d) (hd:(match d with | .interface _=>false | _=>true)=true) (a:ev N σ x=v):(execOp (ev N σ) ⟨dst,.makeInterface t x,ty,pos,af,g⟩).run P w= .ok (.value<|.iface t v) w:=by
 cases d <;> first | (cases hd; done) | simp [execOp,Instr.makeInterface,a,eu hu]
def rS (P:Program) (t:TypeId):Bool:=match P.underlying t with | some (.interface _)=>false | some _=>true | none=>false
theorem V5 {t:TypeId} {v:Value} (h:rS P t=true) (a:ev N σ x=v):(execOp (ev N σ) ⟨dst,.makeInterface t x,ty,pos,af,g⟩).run P w= .ok (.value<|.iface t v) w:=by
 unfold rS at h
 cases hd:P.underlying t with
 | none=>rw [hd] at h; cases h
 | some d=>rw [hd] at h; exact V1 hd (by cases d <;> first | rfl | cases h) a
theorem YI {xt a:TypeId} {zv:Value} (hu:rS P a=true) (j:zeroV P a=some zv) (i:ev N σ x= .nilIface):(execOp (ev N σ) ⟨dst,.typeAssert x xt a true,ty,pos,af,g⟩).run P w= .ok (.value<|.tuple #[zv,.bool false]) w:=by
 unfold rS at hu
 cases hd:P.underlying a with
 | none=>rw [hd] at hu; cases hu
 | some d=>rw [hd] at hu; cases d <;> first | (cases hu; done) | simp [execOp,M7,i,eu hd,zC j]
theorem YH {xt a:TypeId} {v:Value} (hu:rS P a=true) (i:ev N σ x= .iface a v):(execOp (ev N σ) ⟨dst,.typeAssert x xt a true,ty,pos,af,g⟩).run P w= .ok (.value<|.tuple #[v,.bool true]) w:=by
 unfold rS at hu
 cases hd:P.underlying a with
 | none=>rw [hd] at hu; cases hu
 | some d=>rw [hd] at hu; cases d <;> first | (cases hu; done) | simp [execOp,M7,i,eu hd]
variable {S:World→Prop} {fuel:Nat} {a8:Array Bool}
theorem tx {o:Oper} {Pn:List PanicEntry→World→Prop} (i:Nat) (hi:ops[i]? =some o) (q:lh ops a8 i=true) (j:o.guard=none)
 (h:oT P N o σ w (fun σ w=>S w∧gj P N ops Q S fuel (a8.setIfInBounds i true) σ w) Pn) (hp:∀ c w',Pn c w'→∀ a,(∀ i∈N.F,a i=σ i)→Q (.panic c) a w'):gj P N ops Q S (fuel+1) a8 σ w:=by
 unfold gj at*
 refine wpAnyH_all (rs:= [i]) (by simpa [lh] using q) (by simp) ?_
 intro k hk
 obtain rfl :k=i:=by simpa using hk
 unfold wpOp
 simp only [hi]
 rw [if_pos (jO _ j _)]
 exact .inl<|zA h (fun σ w hk=>hk) hp
end
section
variable {P:Program} {N:Fm} {Q:Exit→(Nat→Value)→World→Prop} {σ:Nat→Value} {w:World} {ops:Array Oper} {S:World→Prop} {fuel:Nat} {a8:Array Bool}
theorem UE {o a:Oper} {Pn:List PanicEntry→World→Prop} (i j:Nat) (hi:ops[i]? =some o) (E:ops[j]? =some a) (G:((jo .any ops a8)== [i,j])=true) (A:o.guard=none) (C:a.guard=none)
 (h:oT P N o σ w (fun σ w=>S w∧gj P N ops Q S fuel (a8.setIfInBounds i true) σ w) Pn) (hp:∀ c w',Pn c w'→∀ q,(∀ i∈N.F,q i=σ i)→Q (.panic c) q w')
 (h1:dM P N a σ w (fun σ w=>S w∧gj P N ops Q S fuel (a8.setIfInBounds j true) σ w)):gj P N ops Q S (fuel+1) a8 σ w:=by
 unfold gj at*
 refine wpAnyH_all (rs:= [i,j]) (by simpa using G) (by simp) ?_
 intro k hk
 simp only [gl,ur,or_false] at hk
 rcases hk with rfl | rfl
 · unfold wpOp
   simp only [hi]
   rw [if_pos (jO _ A _)]
   exact .inl<|zA h (fun _ _ hk=>hk) hp
 · unfold wpOp
   simp only [E]
   rw [if_pos (jO _ C _)]
   exact .inl<|tS h1 fun _ _ hk=>hk
end
section
variable {P:Program} {N:Fm} {Q:Exit→(Nat→Value)→World→Prop} {σ:Nat→Value} {w:World} {ops:Array Oper} {S:World→Prop} {fuel r:Nat} {a8:Array Bool}
theorem Jx {o:Oper} {Pn:List PanicEntry→World→Prop} (i:Nat) (hi:ops[i]? =some o) (C:lh ops a8 i=true) (A:o.guard=none)
 (h:oT P N o σ w (fun σ w=>S w∧iG P N ops Q S r fuel (a8.setIfInBounds i true) σ w) Pn) (hp:∀ c w',Pn c w'→∀ j,(∀ i∈N.F,j i=σ i)→Q (.panic c) j w'):iG P N ops Q S r (fuel+1) a8 σ w:=by
 unfold iG at*
 have a:jo .any ops a8= [i]:=by simpa [lh] using C
 refine ⟨fun q=>absurd (a ▸ q) (by simp),fun k hk=> ?_⟩
 rw [a] at hk
 obtain rfl :k=i:=by simpa using hk
 unfold wpOp
 simp only [hi]
 rw [if_pos (jO _ A _)]
 exact .inl<|zA h (fun σ w hk=>⟨fun _=>hk.1,hk.2⟩) hp
end
abbrev qd (P:Program) (fn:Func) (R:Value→World→Prop):Exit→Act→World→Prop :=bodyPostD P fn (fun e w'=> ∃ v,e= .returned v∧R v w')
theorem SO {P:Program} {f:FuncId} {N:Nat} {fn:Func} {c:Code} {args:List Value} {w:World} {R:Value→World→Prop} (F:List Nat) (j:P.funcs[f]? =some fn) (i:fn.body=some c)
 (a:fn.ntmps=N) (hn:o5 args.length N=true) (h:oa P ⟨N,[],F,none⟩ c (qd P fn R) (mL args) w):bh P f args.toArray w R:=by
 subst a
 refine calls_of_wp_defers j i ?_
 rw [y4 fn args F hn]
 exact wpIn_wide.1 h
section
variable {P:Program} {n:Nat} {D:List Deferred} {F:List Nat} {σ:Nat→Value} {w:World} {fn:Func} {R:Value→World→Prop} {B:Exit→Act→World→Prop}
theorem S9 {v:Value} (i:(results fn (act ⟨n,[],F,none⟩ σ).tmps).run P w= .ok v w) (a:R v w):qb ⟨n,[],F,none⟩ (qd P fn R) .ret σ w:=⟨v,i,v,rfl,a⟩
theorem Vz:¬LetsOut (qd P fn R):=fun ⟨_,_,h⟩=>by obtain ⟨v,h,_⟩:=h; cases h
theorem Su {id d:Nat} {f:FuncId} (I:¬LetsOut B) {cs:Array Operand} {E G:TypeId} {A C:String} {j q:Array Edge} {y:Code} (i:Array Value) (M:cs.toList.map (ev ⟨n,[],F,none⟩ σ)=i.toList) (hd:d < n)
 (h:oa P ⟨n,[{target:= .fn (.func f) i,args:= #[]}],F,none⟩ y B (dD σ d<|.func (.func f) #[] i) w):
 oa P ⟨n,[],F,none⟩ (.region id #[⟨some d,.makeFunc (.func f) #[] cs,E,A,j,none⟩,⟨none,.defer ⟨.value (.tmp d),#[],#[]⟩,G,C,q,none⟩] false) (Exit.then (y.wpIn (fe none) 0 P B) B) σ w:=by
 have O:cs.map (ev ⟨n,[],F,none⟩ σ)=i:=zH.1<|by rw [nv]; exact M
 refine wpIn_region ?_
 have J:¬LetsOut (Exit.then (y.wpIn (fe none) 0 P B) B):=fun ⟨a,w,h⟩=>I ⟨a,w,h⟩
 refine Cy (r:=none) J aa _ _ _ ?_
 show wpOps P _ _ [0,1] _ _
 simp only [wpOps,NC,uj,List.getElem?_cons_succ]
 rw [if_pos (jO _ rfl _)]
 refine .inl ?_
 unfold jW
 have h1:(execOp (act ⟨n,[],F,none⟩ σ).eval ⟨some d,.makeFunc (.func f) #[] cs,E,A,j,none⟩).run P w= .ok (.value<|.func (.func f) #[] i) w:=by
  rw [gU,mf,O]; simp
 rw [h1]
 simp only [kW]
 rw [if_pos (jO _ rfl _),jH]
 refine .inl ?_
 have h2:(execOp (act ⟨n,[],F,none⟩<|iF σ (some d)<|.func (.func f) #[] i).eval ⟨none,.defer ⟨.value (.tmp d),#[],#[]⟩,G,C,q,none⟩).run P w= .ok (.defer {target:= .fn (.func f) i,args:= #[]}) w:=by
  have U:ev ⟨n,[],F,none⟩ (dD σ d<|.func (.func f) #[] i) (.tmp d)= .func (.func f) #[] i:=by
   show cond (iR d n) (dD σ d _ d) undef=_
   rw [show iR d n=true from by simpa using hd]
   show dD σ d _ d=_
   unfold dD; simp
  rw [gU]
  show (execOp (ev ⟨n,[],F,none⟩<|dD σ d<|.func (.func f) #[] i) _).run P w=_
  simp [execOp,resolve,U,qY]
 rw [h2]
 exact h
end
theorem Wy {P:Program} {ops:Array Oper} {Q:Exit→Act→List Frame→World→Prop} {cs:List Frame} (q:¬LetsOut fun e a w=>Q e a cs w):∀ (l:List Nat) (a:Act) (w:World),wpOps P ops (fun e a w=>Q e a cs w) l a w→wpOpsS P ops Q l a cs w:=by
 intro l
 induction l with
 | nil=>exact fun _ _ h=>h
 | cons i l j=>
   intro a w h
   simp only [wpOps] at h
   simp only [wpOpsS]
   cases ho:ops[i]? with
   | none=>simp only [ho] at h ⊢; exact j a w h
   | some o=>
     simp only [ho] at h ⊢
     by_cases hw:Region.wanted o (yielded ops a.tmps)=true
     · rw [if_pos hw] at h ⊢
       rcases h with h | h
       · unfold jW at h
         generalize (execOp a.eval o).run P w=x at h
         cases x with
         | ok n w'=>
           cases n <;> simp only [kW] at h ⊢ <;>
            first
             | exact j _ _ h
             | exact lO h fun e w'' he=>by cases e <;> first | exact j _ _ he | exact he
             | exact Er h fun v w'' he=>j _ _ he
         | halt x w'=>cases x <;> simp only [kW] at h ⊢ <;> exact h
       · exact absurd h.2 q
     · rw [if_neg hw] at h ⊢
       exact j _ _ h
theorem VE {P:Program} {ops:Array Oper} {Q q:Exit→Act→World→Prop} (j:∀ e a w,Q e a w→q e a w) (A:¬LetsOut Q):∀ (l:List Oper) (a:Act) (w:World),wpList P ops Q l a w→wpList P ops q l a w:=by
 intro l
 induction l with
 | nil=>exact fun _ _ h=>j _ _ _ h
 | cons o l i=>
   intro a w h
   unfold wpList at h ⊢
   split at h
   · rename_i hw
     rw [if_pos hw]
     rcases h with h | h
     · left
       unfold jW at h ⊢
       generalize (execOp a.eval o).run P w=x at h
       cases x with
       | ok n w'=>
         cases n <;> simp only [kW] at h ⊢ <;>
          first
           | exact i _ _ h
           | exact lO h (fun e w'' he=>by
            cases e with
            | returned v=>exact i _ _ he
            | panicked c=>exact j _ _ _ he
            | outgrown=>exact absurd he A)
           | exact Er h fun v w'' he=>i _ _ he
       | halt x w'=>cases x <;> simp only [kW] at h ⊢ <;> exact j _ _ _ h
     · exact absurd h.2 A
   · rename_i hw
     rw [if_neg hw]; exact i _ _ h
theorem GD {P:Program} {f:FuncId} {fn:Func} {id N d:Nat} {ty:TypeId} {pos :String} {af:Array Edge} {rest:List Oper} {y:Code} {args:List Value} {w:World} {u E:FrameMode} {v:Value} {R:World→Prop}
 (ac:P.funcs[f]? =some fn) (aa:fn.body=some (.seq (.region id (⟨some d,.call ⟨.builtin .recover,#[],#[]⟩,ty,pos,af,none⟩::rest).toArray false) y)) (Z:fn.ntmps=N) (hn:o5 args.length N=true)
 (ae:∀ (A:Frame) (cs:List Frame),A.mode=u→(recoverD (A::cs)=some (v,{A with mode:=E} ::cs))∨(recoverD (A::cs)=none∧v= .nilIface∧E=u))
 (h:e7 P ⟨N,[],[],none⟩ (⟨some d,.call ⟨.builtin .recover,#[],#[]⟩,ty,pos,af,none⟩::rest).toArray (mN (fun σ w=>dW P ⟨N,[],[],none⟩ y (fin P fn ⟨N,[],[],none⟩ fun _ w=>R w) σ w)<|fin P fn ⟨N,[],[],none⟩ fun _ w=>R w) rest (dD (mL args) d v) w):
 CallsD P f args.toArray u w fun e G w'=> ∃ v,e= .returned v∧G=E∧R w':=by
 subst Z
 refine callsD_of_wpS ac aa ?_
 intro A cs hu
 rw [y4 fn args [] hn]
 refine wpS_seq<|wpS_region ?_
 have ag:jZ (⟨some d,.call ⟨.builtin .recover,#[],#[]⟩,ty,pos,af,none⟩::rest).toArray.size=0::(List.range' 1 rest.length):=by
  rw [oo,cM,List.range_eq_range',List.range'_succ]
 rw [ag]
 simp only [wpOpsS,NC,uj]
 rw [if_pos (jO _ rfl _)]
 have ah:(execOp (act ⟨fn.ntmps,[],[],none⟩<|mL args).eval ⟨some d,.call ⟨.builtin .recover,#[],#[]⟩,ty,pos,af,none⟩).run P w= .ok .recover w:=by
  rw [gU]
  simp [execOp,resolve,invoke,builtin]
 rw [ah]
 simp only
 obtain ⟨I,J⟩:∃ I,I=({A with mode:=E} ::cs:List Frame):=⟨_,rfl⟩
 have ab:∀ X:Act→List Frame→Prop,X ((act ⟨fn.ntmps,[],[],none⟩<|mL args).put (some d) v) I→
  (match recoverD (A::cs) with
   | some (v,M)=>X ((act ⟨fn.ntmps,[],[],none⟩<|mL args).put (some d) v) M
   | none=>X ((act ⟨fn.ntmps,[],[],none⟩<|mL args).put (some d) .nilIface) (A::cs)):=by
  intro X V
  rcases ae A cs hu with h1 | ⟨h1,h2,h3⟩
  rw [h1]; subst J; exact V
  rw [h1]; subst h2 h3
  have :({A with mode:=E} :Frame)=A:=by subst hu; rfl
  rw [this] at J; subst J; exact V
 refine ab (fun a M=>wpOpsS P _ _ _ a M w) ?_
 rw [jH]
 refine Wy ?_ _ _ _ ?_
 rintro ⟨a,w,h⟩
 simp only [Exit.thenS,bodyPostS] at h
 obtain ⟨_,_,h,_⟩:=h; cases h
 have h1:=wpOps_eq_wpList (P:=P) (ops:=(⟨some d,.call ⟨.builtin .recover,#[],#[]⟩,ty,pos,af,none⟩::rest).toArray) (Q:=fun e a w'=>Exit.thenS (Code.wpS P y (bodyPostS P fn A cs fun e G w'=> ∃ v,e= .returned v∧G=E∧R w')) (bodyPostS P fn A cs fun e G w'=> ∃ v,e= .returned v∧G=E∧R w') e a I w') rest 1 fun j=>by simp [Nat.add_comm]
 rw [h1]
 unfold e7 at h
 refine VE ?_ CI _ _ _ h
 intro e a w' C
 have Y:∀ (e:Exit) (σ:Nat→Value) (w':World),fin P fn ⟨fn.ntmps,[],[],none⟩ (fun _ w=>R w) e σ w'→bodyPostS P fn A cs (fun e G w'=> ∃ v,e= .returned v∧G=E∧R w') e (act ⟨fn.ntmps,[],[],none⟩ σ) I w':=by
  intro e σ w' q
  cases e with
  | normal=>obtain ⟨v,U,O⟩:=q; exact ⟨rfl,E,J,v,U,v,rfl,rfl,O⟩
  | ret=>obtain ⟨v,U,O⟩:=q; exact ⟨rfl,E,J,v,U,v,rfl,rfl,O⟩
  | _=>exact q.elim
 cases e with
 | normal=>
   obtain ⟨σ,rfl,q⟩:=C
   refine wpS_of_wp ?_
   simp only [mN] at q
   unfold dW at q
   refine MU ?_<|wpIn_wide.1 q
   intro e a w' C
   cases e with
   | panic c=>obtain ⟨σ,rfl,q⟩:=C; exact (q σ fun _ _=>rfl).elim
   | outgrown=>exact C.elim
   | _=>obtain ⟨σ,rfl,q⟩:=C; exact Y _ σ w' q
 | panic c=>obtain ⟨σ,rfl,q⟩:=C; exact (q σ fun _ _=>rfl).elim
 | outgrown=>exact C.elim
 | ret=>obtain ⟨σ,rfl,q⟩:=C; exact Y .ret σ w' q
 | exit i=>obtain ⟨σ,rfl,q⟩:=C; exact q.elim
 | goto i=>obtain ⟨σ,rfl,q⟩:=C; exact q.elim
section
variable {P:Program} {n:Nat} {F:List Nat} {σ:Nat→Value} {w:World} {fn:Func} {R:Value→World→Prop}
theorem Tc {g:FuncId} {a:Array Value} {M:World→Prop} (hu:(invoke (.fn (.func g) a) #[]).run P w= .ok (.enter g a) w)
 (j:CallsD P g a .returning w fun e q w'=> ∃ v,e= .returned v∧q= .returning∧M w') (i:∀ w',M w'→∃ v,(results fn (act ⟨n,[{target:= .fn (.func g) a,args:= #[]}],F,none⟩ σ).tmps).run P w'= .ok v w'∧R v w'):
 qb ⟨n,[{target:= .fn (.func g) a,args:= #[]}],F,none⟩ (qd P fn R) .ret σ w:=by
 refine leaves_cons (by simp) hu ?_
 refine MT j ?_
 rintro e A w' ⟨v,rfl,rfl,hm⟩
 obtain ⟨v2,h1,h2⟩:=i w' hm
 exact ⟨v2,h1,v2,aa,h2⟩
theorem Td {g:FuncId} {a:Array Value} {M:World→Prop} {v:Value} (hu:(invoke (.fn (.func g) a) #[]).run P w= .ok (.enter g a) w)
 (j:CallsD P g a (.panicking [{v:=v,recovered:=false}]) w fun e q w'=> ∃ x,e= .returned x∧q= .panicking [{v:=v,recovered:=true}]∧M w') (i:∀ w',M w'→∃ v,(results fn (act ⟨n,[{target:= .fn (.func g) a,args:= #[]}],F,none⟩ σ).tmps).run P w'= .ok v w'∧R v w'):
 qb ⟨n,[{target:= .fn (.func g) a,args:= #[]}],F,none⟩ (qd P fn R) (.panic [{v:=v,recovered:=false}]) σ w:=by
 refine leaves_cons (by simp) hu ?_
 refine MT j ?_
 rintro e A w' ⟨x,rfl,rfl,hm⟩
 obtain ⟨v2,h1,h2⟩:=i w' hm
 exact ⟨v2,h1,v2,aa,h2⟩
end
end Go.Hb
end
section
namespace Go.Hb
open Go.RowKit
def mq (w:World) (B e n:Nat) (v:Value) (xs:List Value):Prop :=
 ∃ a cp,v= .slice a n cp∧n≤cp∧(xs= []∨∃ b o cur z,a=some ⟨b,o,none⟩∧B≤b∧w.heap[b]? =some (.cells cur e z)∧∀ (j:Nat) u,xs[j]? =some u→cur[o+j]? =some u)
theorem Tg.YS {w:World} {B e n:Nat} {v:Value} {xs:List Value} (h:Tg w B e n v xs):mq w B e n v xs:=by
 obtain ⟨a,cp,rfl,C,i⟩:=h
 refine ⟨a,cp,aa,C,i.imp id ?_⟩
 rintro ⟨b,cur,z,q,A,E,i⟩
 exact ⟨b,0,cur,z,q,A,E,fun j u hu=>by rw [Nat.zero_add]; exact i j u hu⟩
theorem mq.cells {w:World} {B e n cp:Nat} {a:Option Addr} {xs:List Value} (h:mq w B e n (.slice a n cp) xs):n≤cp∧aI w.heap a xs:=by
 obtain ⟨E,G,C,q,i⟩:=h
 cases C
 rcases i with h | ⟨b,o,cur,z,rfl,_,A,i⟩
 · subst h; exact ⟨q,aI.nil _ _⟩
 · refine ⟨q,fun _=>rfl,fun j u hu=> ?_⟩
   show Hb.aO w.heap b (o+j)=_
   rw [a6 A]; exact i j u hu
theorem mq.slice {w:World} {B e n:Nat} {v:Value} {xs:List Value} (h:mq w B e n v xs):∃ a cp,v= .slice a n cp:=let ⟨a,cp,hv,_⟩:=h; ⟨a,cp,hv⟩
theorem mq.md {F:Nat→Prop} {w w':World} {B e n:Nat} {v:Value} {xs:List Value} (h:mq w B e n v xs) (hm:Md F w w') (q:∀ k,F k→∀ cur z,w.heap[k]?≠some (.cells cur e z)):mq w' B e n v xs:=by
 obtain ⟨a,cp,rfl,j,h | ⟨b,o,cur,z,rfl,A,i,C⟩⟩:=h
 · exact ⟨a,cp,aa,j,.inl h⟩
 · exact ⟨_,cp,aa,j,.inr ⟨b,o,cur,z,aa,A,by rw [hm.cy b (dm.1 i).1 (fun hk=>q b hk cur z i)]; exact i,C⟩⟩
theorem mq.pH {w:World} {B e n m cp:Nat} {a:Option Addr} {xs:List Value} (h:mq w B e (n+1) (.slice a (n+1) cp) xs) (E:xs.length=(n+1)*m):mq w B e n (.slice (gh a cp 1 m) n<|cp - 1) (xs.drop m):=by
 obtain ⟨I,J,C,M,A⟩:=h
 cases C
 refine ⟨_,_,aa,ab,?_⟩
 rcases A with rfl | ⟨b,o,cur,z,rfl,i,q,G⟩
 · exact .inl<|by simp
 · unfold gh
   by_cases h1:cp=1
   · refine .inl<|fO ?_
     obtain rfl :n=0:=ab
     rw [fK,E]; omega
   · rw [if_neg h1]
     refine .inr ⟨b,o+1 *m,cur,z,?_,i,q,fun j u hu=> ?_⟩
     · rw [mh,mr]
     · rw [List.getElem?_drop] at hu
       have :=G _ u hu
       rw [show o+1 *m+j=o+(m+j) from by omega]; exact this
def ek (w:World) (B e:Nat) (vs:List Value) (a:List (List Nat)):Prop :=vs.length=a.length∧∀ (i:Nat) v l,vs[i]? =some v→a[i]? =some l→Tg w B e l.length v (l.map bc)
theorem ek.nil (w:World) (B e:Nat):ek w B e [] []:=⟨rfl,fun i v l a=>by simp at a⟩
theorem ek.md {F:Nat→Prop} {w w':World} {B e:Nat} {vs:List Value} {a:List (List Nat)} (h:ek w B e vs a) (hm:Md F w w') (j:∀ k,F k→∀ cur z,w.heap[k]?≠some (.cells cur e z)):ek w' B e vs a:=⟨h.1,fun i v l h1 h2=>(h.2 i v l h1 h2).md hm j⟩
theorem ek.wk {w w':World} {B e:Nat} {vs:List Value} {a:List (List Nat)} (h:ek w B e vs a) (hm:Wk w w'):ek w' B e vs a:=h.md hm fun _ hk=>hk.elim
theorem ek.mono {w:World} {B B' e:Nat} {vs:List Value} {a:List (List Nat)} (h:ek w B e vs a) (j:B'≤B):ek w B' e vs a:=⟨h.1,fun i v l h1 h2=>(h.2 i v l h1 h2).mono j⟩
theorem ek.snoc {w:World} {B e:Nat} {vs:List Value} {q:List (List Nat)} {v:Value} {l:List Nat} (a:ek w B e vs q) (C:Tg w B e l.length v (l.map bc)):ek w B e (vs++ [v]) (q++ [l]):=by
 refine ⟨by rw [bI,bI,a.1]; rfl,fun i E G h1 h2=> ?_⟩
 have A:=a.1
 by_cases hi:i < vs.length
 · rw [mg hi] at h1
   rw [mg ab] at h2
   exact a.2 i E G h1 h2
 · rw [mT ab] at h1
   rw [mT ab,← A] at h2
   cases hj:i - vs.length with
   | zero=>rw [hj] at h1 h2; cases h1; cases h2; exact C
   | succ j=>rw [hj] at h1; simp at h1
def jk (t ln:Nat) (e:Int):List PanicEntry:= [{v:= .iface t (.agg [.int .i64 1,.int .i64 (ln:Nat),.int .i64 e].toArray),recovered:=false}]
theorem ez {h:World} {b:Nat} {isK:Value→Prop} {f:Value→Option Value} (hm:dq h.heap b isK f):tag h b=1:=let ⟨_,h1,_⟩:=hm; YJ h1
def Wr (L:List Nat) (ms mt mc B:Nat) (w:World) (k:Nat):Prop :=B≤k∧(k=ms∨k=mt∨k=mc∨L.contains (tag w k)=true)
abbrev Mw (L:List Nat) (ms mt mc B:Nat) (w w':World):Prop :=Md (Wr L ms mt mc B w) w w'
section
variable {L:List Nat} {ms mt mc B:Nat} {w w' w'':World}
theorem Mw.trans (h:Mw L ms mt mc B w w') (a:Mw L ms mt mc B w' w''):Mw L ms mt mc B w w'':=by
 refine Md.trans' h a fun k hk hw=> ?_
 refine Classical.byContradiction fun hn=> ?_
 have :=Md.tag h hk hn
 unfold Wr at hw
 rw [this] at hw
 exact hn hw
theorem Wk.mw (h:Wk w w'):Mw L ms mt mc B w w':=h.mono fun _ _ a=>a.elim
theorem Mw.of {F:Nat→Prop} (h:Md F w w') (j:TF w L F) (i:∀ k,F k→B≤k):Mw L ms mt mc B w w':=h.mono fun k _ a=>⟨i k a,.inr<|.inr<|.inr<|j k a⟩
theorem Mw.wk {a:World} (i:Wk a w) (h:Mw L ms mt mc B w w') (j:a.heap.size≤B):Wk a w':=Md.trans' i h fun k hk hw=>by have :=hw.1; omega
theorem Wr.ne (hs:tag w ms=1) (A:tag w mt=1) (q:tag w mc=1) {e:Nat} (j:L.contains (e+2)=false):∀ k,Wr L ms mt mc B w k→∀ cur z,w.heap[k]?≠some (.cells cur e z):=by
 rintro k ⟨_,rfl | rfl | rfl | h⟩ cur z i <;> have a:=dt i
 · omega
 · omega
 · omega
 · rw [a,j] at h; cases h
end
end Go.Hb
end
section
namespace Go.Hb
open Go.RowKit
section
variable {P:Program} {N:Fm} {σ:Nat→Value} {w:World} {dst:Option Nat} {ty:TypeId} {pos :String} {af:Array Edge} {g:Option (Nat×Bool)} {x y:Operand}
theorem S1 (d:Nat) {t e:TypeId} {a:Option Addr} {n c:Nat} (hu:P.underlying t=some (.slice e)):(Op.equalIn (d+1) t (.slice a n c)<|.slice none 0 0).run P w= .ok a.isNone w:=by
 cases a <;> simp [Op.equalIn,eu hu]
theorem S2 {t e:TypeId} {a:Option Addr} {n c:Nat} (hu:P.underlying t=some (.slice e)):(Op.equal t (.slice a n c)<|.slice none 0 0).run P w= .ok a.isNone w:=S1 9999 hu
theorem ta {t q e:TypeId} {a:Option Addr} {n c:Nat} (hu:P.underlying t=some (.slice e)) (i:ev N σ x= .slice a n c) (j:ev N σ y= .slice none 0 0):
 (execOp (ev N σ) ⟨dst,.binOp .eql t x y q,ty,pos,af,g⟩).run P w= .ok (.value<|.bool a.isNone) w:=by
 have h:(binOp .eql t (.slice a n c)<|.slice none 0 0).run P w= .ok (.bool a.isNone) w:=by
  simp only [binOp]; simp [S2 hu]
 simp [execOp,i,j,eqGuard,h]
end
def Rd (h:Array Obj) (v:Value) (n size:Nat) (xs:List Value):Prop := ∃ a c,v= .slice a n c∧aI h a xs∧xs.length=n*size∧(a=none→n=0)
theorem Rd.jN {w:World} {B e size n:Nat} {v:Value} {xs:List Value} (h:w.ownsRow B e size v n xs):Rd w.heap v n size xs:=by
 obtain ⟨a,c,rfl,h1,_,_,h3⟩:=tD h
 refine ⟨a,c,aa,h1,h.1,fun i=> ?_⟩
 subst i
 rcases h.2 with ⟨h4,h5⟩ | ⟨g,cap,cur,h4,_⟩
 · exact h5
 · simp at h4
theorem Kt {w:World} {B e size n k cp:Nat} {a:Option Addr} {xs:List Value} (h:w.ownsRow B e size (.slice a n cp) n xs) (hk:k≤n) (A:a≠none):w.ownsRow B e size (.slice a k cp) k (xs.take<|k*size):=by
 obtain ⟨i,h⟩:=h
 refine ⟨by rw [dO,i]; exact o6 (sA _ hk),?_⟩
 rcases h with ⟨h1,_⟩ | ⟨g,cap,cur,h1,h2,h3,h4,h5,j,q⟩
 · simp only [mR] at h1; exact absurd h1.1 A
 · simp only [mR,true_and] at h1
   obtain ⟨rfl,rfl⟩:=h1
   refine .inr ⟨g,_,cur,aa,h2,h3,ab,h5,j,?_⟩
   rw [← q,NR,o6 (sA _ hk)]
section
variable {P:Program} {N:Fm} {σ:Nat→Value} {w:World} {dst:Option Nat} {ty:TypeId} {pos :String} {af:Array Edge} {g:Option (Nat×Bool)} {x y z u:Operand} {K:(Nat→Value)→World→Prop}
theorem Yb {t n len cap:Nat} {a:Option Addr} {k k' G:IntKind} {i j m:Nat} (he:gr P t=some n) (A:ev N σ x= .slice a len cap) (C:ev N σ y= .int k (i:Nat)) (E:ev N σ z= .int k' (j:Nat)) (hu:ev N σ u= .int G (m:Nat)) (h:i≤j∧j≤m∧m≤cap):
 (execOp (ev N σ) ⟨dst,.slice t x (some y) (some z) (some u),ty,pos,af,g⟩).run P w= .ok (.value<|.slice (gh a m i n) (j - i)<|m - i) w:=by
 have h1:(0:Int)≤(i:Int):=ab
 have h2:(0:Int)≤(j:Int):=ab
 have h3:(0:Int)≤(m:Int):=ab
 unfold gr at he
 cases hd:P.underlying t with
 | none=>rw [hd] at he; cases he
 | some d=>
   rw [hd] at he
   cases d <;> first | (cases he; done) | skip
   rename_i e
   cases hi':P.info? e with
   | none=>simp [hi'] at he
   | some q=>
     simp only [hi',mh,fL] at he
     subst he
     simp only [execOp,si,Instr.slice,A,C,E,hu,mh,oX,Instr.sliceBound,asIntOf]
     simp [eu hd,jc hi',sizeOf,h.1,h.2.1,h.2.2,gh]
theorem OC {t e size bytes B n m cp c A:Nat} {xs news:List Value} {a:Option Addr} (Y:fV P t e size bytes=true) (M:w.ownsRow B e size (.slice (some ⟨A,0,none⟩) n cp) n xs) (Z:ev N σ x= .slice (some ⟨A,0,none⟩) n cp)
 (aa:ev N σ y= .slice a m c) (G:aI w.heap a news) (I:a≠none) (J:news.length=m*size) (h1:news.all Value.oneCell'=true) (V:n+m≤cp)
 (k:∀ w',Md (fun q=>q=A) w w'→w'.ownsRow B e size (.slice (some ⟨A,0,none⟩) (n+m) cp) (n+m) (xs++news)→K (iF σ dst<|.slice (some ⟨A,0,none⟩) (n+m) cp) w'):
 dM P N ⟨dst,.call ⟨.builtin .append,#[x,y],#[t,t]⟩,ty,pos,af,g⟩ σ w K:=by
 obtain ⟨hu,i,zv,hi,ae,hs,ab,ag,ac⟩:=r4 Y
 obtain ⟨ad,rfl⟩:∃ ad,a=some ad:=by cases a with | none=>exact absurd rfl I | some ad=>exact ⟨ad,rfl⟩
 have hn:∀ j v,news[j]? =some v→w.cell? (ad.add j)=some v:=fun j v C=>by
  have E:news≠[]:=fun e=>by rw [e] at C; simp at C
  have h2:=G.ok E
  simp only [fL] at h2
  rw [h2,mr,nI]; exact G.aO j v C
 obtain ⟨w',U,h2,h3⟩:=Go.run_append_fits (P:=P) (w:=w) B t ty e i size hu hi hs A n cp xs M ad m c news J hn (uF h1) V
 refine oc (w':=w') (v:= .slice (some ⟨A,0,none⟩) (n+m) cp) ?_<|k w' ⟨h3.os,h3.output,h3.size,fun q O E=>h3.block q O fun e=>E<|rj e⟩ h2
 simp [execOp,resolve,invoke,builtin,Z,aa,U]
end
end Go.Hb
end
section
namespace Go.Hb
def qn (P:Program) (t:TypeId):Option (Nat×Nat):=
 match P.underlying t with
 | some (.array n e)=>(P.info? e).map fun i=>(n,i.size)
 | _=>none
section
variable {P:Program} {N:Fm} {σ:Nat→Value} {w:World} {dst:Option Nat} {ty:TypeId} {pos :String} {af:Array Edge} {g:Option (Nat×Bool)} {x y:Operand}
theorem ka {t n q b off :Nat} {k:IntKind} {i:Int} (he:qn P t=some (n,q)) (A:ev N σ x= .pointer (some ⟨b,off,none⟩)) (C:ev N σ y= .int k i) (a:0≤i∧i < n):
 (execOp (ev N σ) ⟨dst,.indexAddr t x y,ty,pos,af,g⟩).run P w= .ok (.value<|.pointer<|some ⟨b,off+i.toNat*q,none⟩) w:=by
 unfold qn at he
 cases hd:P.underlying t with
 | none=>rw [hd] at he; cases he
 | some d=>
   rw [hd] at he
   cases d <;> first | (cases he; done) | skip
   rename_i m e
   cases hi:P.info? e with
   | none=>simp [hi] at he
   | some j=>
     simp only [hi,mh,fL,sE] at he
     obtain ⟨rfl,rfl⟩:=he
     simp [execOp,Instr.indexAt,qZ,A,C,asIntOf,eu hd,a.1,a.2,sizeOf,jc hi,mr]
end
theorem VY {h:Array Obj} {b:Nat} {a:List UInt8} (i:bL h b (marksOf a)) (c:UInt8):Hb.aO h b (0 +((c.toNat:Nat):Int).toNat*1)=some (.bool<|decide (c∈a)):=by
 rw [i.aO,show 0 +((c.toNat:Nat):Int).toNat*1=c.toNat from by omega]; exact VV a c
theorem VZ {h:Array Obj} {b:Nat} {a:List UInt8} {c:UInt8} (i:bL h b ((marksOf a).set (0 +((c.toNat:Nat):Int).toNat*1)<|.bool true)):bL h b (marksOf<|a++ [c]):=by
 rw [show 0 +((c.toNat:Nat):Int).toNat*1=c.toNat from by omega,VX] at i; exact i
end Go.Hb
end
section
namespace Go.Hb
theorem Vb (c:UInt8):∀ l:List UInt8,M8 l c=eZ c l:=by
 intro l
 induction l with
 | nil=>rfl
 | cons b l q=>
   unfold M8
   rw [q]
   rw [show eZ c (b::l)=if (b::l).idxOf c < (b::l).length then ((b::l).idxOf c:Int) else -1 from rfl,List.idxOf_cons]
   by_cases h:(b==c)=true
   · rw [if_pos h,h]; rfl
   · have i:(b==c)=false :=by simpa using h
     rw [if_neg h,i]
     simp only [cond_false,cM]
     by_cases h1:l.idxOf c < l.length
     · have a:eZ c l=l.idxOf c:=if_pos h1
       rw [a,if_neg (fun j=>by have :=eq_of_beq j; omega),if_pos ab]; rfl
     · have a:eZ c l= -1:=if_neg h1
       rw [a,if_pos az,if_neg ab]
theorem XP {P:Program} {f:FuncId} {fn:Func} (i:P.funcs[f]? =some fn) (j:(fn.name== "runtime.NumGoroutine")=false) (a:fn.body.isNone=true) (hn:M0 fn=none)
 (he:MZ fn=some ZY) (l:List UInt8) (c:UInt8) (w:World):(callFunc f #[str l,.int .u8 c.toNat]).run P w= .ok (.value<|.int .i64<|eZ c l) w:=by
 rw [run_callFunc_extern i j a hn he]
 unfold str
 rw [Lib.run_indexByteString]
 have h1:((c.toNat:Int)).toNat.toUInt8=c:=kY.1<|by simp
 rw [h1,Vb]
 rfl
theorem XO {P:Program} {f:FuncId} {fn:Func} (i:P.funcs[f]? =some fn) (j:(fn.name== "runtime.NumGoroutine")=false) (a:fn.body.isNone=true) (hn:M0 fn=none)
 (he:MZ fn=some ZX) (l:List UInt8) (c:UInt8) (w:World):(callFunc f #[str l,.int .u8 c.toNat]).run P w= .ok (.value<|.int .i64 (l.count c:Nat)) w:=by
 rw [run_callFunc_extern i j a hn he]
 unfold str
 rw [Lib.run_countString]
 have h1:((c.toNat:Int)).toNat.toUInt8=c:=kY.1<|by simp
 rw [h1]
 rfl
section
variable {P:Program} {N:Fm} {σ:Nat→Value} {w:World} {dst:Option Nat} {ty:TypeId} {pos :String} {af:Array Edge} {g:Option (Nat×Bool)}
theorem GN {f:FuncId} {a b v:Value} {args:Array Operand} {i:Array TypeId} (h:(callFunc f #[a,b]).run P w= .ok (.value v) w) (j:args.toList.map (ev N σ)= [a,b]):
 (execOp (ev N σ) ⟨dst,.call ⟨.value (.func f),args,i⟩,ty,pos,af,g⟩).run P w= .ok (.value v) w:=by
 have :args.map (ev N σ)= #[a,b]:=by rw [← zH,nv,j]
 simp [execOp,resolve,ev,qY,invoke,this,h]
end
end Go.Hb
end
section
namespace Go.Hb
open Go.RowKit
theorem XW {L:List Value} {o:Nat} {v:Value} (h:o < L.length):(L.set o v).take (o+1)=L.take o++ [v]:=by
 rw [List.set_eq_take_append_cons_drop,if_pos h,xd,dO,o6 ab,Nat.add_sub_cancel_left,eI (by rw [dO]; omega)]
 rfl
theorem XV {L:List Value} {o m:Nat} {v:Value} (h:o < m):(L.set o v).drop m=L.drop m:=by
 rw [List.drop_set,if_pos h]
theorem Lg (b e:Nat):∀ (vs:List Value) (o:Nat) (L:List Value) (w:World),w.heap[b]? =some (.cells L.toArray e (0,0))→o+vs.length≤L.length→
 (w.setCells b o vs).heap[b]? =some (.cells (L.take o++vs++L.drop (o+vs.length)).toArray e (0,0))∧Md (fun k=>k=b) w (w.setCells b o vs):=by
 intro vs
 induction vs with
 | nil=>intro o L w a _; exact ⟨by simpa [World.setCells] using a,Md.refl _ _⟩
 | cons v r C=>
   intro o L w a j
   simp only [cM] at j
   have h1:(w.setCell ⟨b,o,none⟩ v).heap[b]? =some (.cells (L.set o v).toArray e (0,0)):=by
    have q:=(dm.1 a).1
    have A:w.heap[b]= .cells L.toArray e (0,0):=(dm.1 a).2
    simp only [zT]
    rw [Array.getElem?_eq_getElem (by simpa using q),Array.getElem_modify]
    simp [A,List.setIfInBounds_toArray]
   have i:Md (fun k=>k=b) w (w.setCell ⟨b,o,none⟩ v):=⟨rfl,rfl,by simp [zT],fun k _ hk=>Below.heap_setCell w _ v k hk⟩
   obtain ⟨h2,h3⟩:=C (o+1) (L.set o v) _ h1<|by rw [List.length_set]; omega
   refine ⟨?_,Md.trans i h3⟩
   show ((w.setCell ⟨b,o,none⟩ v).setCells b (o+1) r).heap[b]? =_
   rw [h2,XW ab,XV ab,cM,show o+1 +r.length=o+(r.length+1) from by omega]
   simp
section
variable {P:Program} {N:Fm} {σ:Nat→Value} {w:World} {ty:TypeId} {pos :String} {af:Array Edge} {g:Option (Nat×Bool)} {x:Operand} {K:(Nat→Value)→World→Prop}
theorem Ri {t e B n k cp E m:Nat} {a:Option Addr} {xs:List Value} {z:Value} (ah:P.underlying t=some (.slice e)) (aj:zeroV P e=some z) (h1:z.oneCell'=true) (Y:w.ownsRow B e 1 (.slice a n cp) n xs)
 (G:ev N σ x= .slice (gh a cp k 1) m E) (hm:m=n - k) (hk:k < n) (ak:∀ w',Md (fun q=>(bO a n cp).ownBlock=some q) w w'→w'.ownsRow B e 1 (.slice a n cp) n (xs.take k++kj (n - k) z)→K σ w'):
 dM P N ⟨none,.call ⟨.builtin .clear,#[x],#[t]⟩,ty,pos,af,g⟩ σ w K:=by
 obtain ⟨J,h⟩:=Y
 subst hm
 rcases h with ⟨h,rfl⟩ | ⟨i,al,cur,h,M,U,hle,O,ag,ai⟩
 · omega
 · simp only [mR,true_and] at h
   obtain ⟨rfl,rfl⟩:=h
   have ae:gh (some ⟨i,0,none⟩) cp k 1=some ⟨i,k,none⟩:=by
    unfold gh; rw [if_neg ab]; simp [mr]
   rw [ae] at G
   have C:w.heap[i]? =some (.cells cur.toList.toArray e (0,0)):=by simpa using U
   have A:cur.toList.length=cp*1:=by rw [wg]; exact ag
   have ac:=M9 (P:=P) w t e ty z ah (fun w=>zC aj w) (by cases z <;> first | rfl | (cases h1; done)) h1 i k (n - k) E ab
    (fun j V=>by rw [nI,a6 C]; simp; omega) (fun j V=>by simp only [Nj,show w.heap[i]? =_ from C]; simp)
   obtain ⟨h2,h3⟩:=Lg i e (kj (n - k) z) k cur.toList w C<|by rw [om,A]; omega
   refine oc (w':=w.setCells i k<|kj (n - k) z) (v:= .tuple #[]) ?_ (ak _ (h3.mono fun q _ Z=>by subst Z; rfl) ⟨?_,.inr ⟨i,cp,_,aa,M,h2,hle,O,?_,?_⟩⟩)
   · simp [execOp,resolve,invoke,builtin,G,ac]
   · rw [bI,dO,om,J]; omega
   · simp only [oo,bI,dO,fK,om,A]; omega
   · rw [om,o7]
     have I:(cur.toList.take k++kj (n - k) z++cur.toList.drop (k+(n - k))).toArray.toList=(cur.toList.take k++kj (n - k) z)++cur.toList.drop (k+(n - k)):=rfl
     rw [I,xd,bI,dO,om,A,o6 ab,show n - (k+(n - k))=0 by omega,oq,ed,eI (by rw [bI,dO,om,A]; omega)]
     rw [← ai,NR,o7,o6 ab]
theorem Rj {t e B n cp E m:Nat} {a:Option Addr} {xs:List Value} {z:Value} (ai:P.underlying t=some (.slice e)) (ak:zeroV P e=some z) (h1:z.oneCell'=true) (Z:w.ownsRow B e 1 (.slice a n cp) n xs) (O:a≠none)
 (G:ev N σ x= .slice (gh a cp n 1) m E) (hm:0 < m∧n+m≤cp) (al:∀ w',Md (fun q=>(bO a n cp).ownBlock=some q) w w'→w'.ownsRow B e 1 (.slice a n cp) n xs→K σ w'):
 dM P N ⟨none,.call ⟨.builtin .clear,#[x],#[t]⟩,ty,pos,af,g⟩ σ w K:=by
 obtain ⟨J,h⟩:=Z
 rcases h with ⟨h,rfl⟩ | ⟨i,am,cur,h,M,V,hle,U,ah,aj⟩
 · simp only [mR] at h; exact absurd h.1 O
 · simp only [mR,true_and] at h
   obtain ⟨rfl,rfl⟩:=h
   have ag:gh (some ⟨i,0,none⟩) cp n 1=some ⟨i,n,none⟩:=by
    unfold gh; rw [if_neg ab]; simp [mr]
   rw [ag] at G
   have C:w.heap[i]? =some (.cells cur.toList.toArray e (0,0)):=by simpa using V
   have A:cur.toList.length=cp*1:=by rw [wg]; exact ah
   have ae:=M9 (P:=P) w t e ty z ai (fun w=>zC ak w) (by cases z <;> first | rfl | (cases h1; done)) h1 i n m E hm.1
    (fun j Y=>by rw [nI,a6 C]; simp; omega) (fun j Y=>by simp only [Nj,show w.heap[i]? =_ from C]; simp)
   obtain ⟨h2,h3⟩:=Lg i e (kj m z) n cur.toList w C<|by rw [om,A]; omega
   refine oc (w':=w.setCells i n<|kj m z) (v:= .tuple #[]) ?_ (al _ (h3.mono fun q _ ac=>by subst ac; rfl) ⟨J,.inr ⟨i,cp,_,aa,M,h2,hle,U,?_,?_⟩⟩)
   · simp [execOp,resolve,invoke,builtin,G,ae]
   · simp only [oo,bI,dO,fK,om,A]; omega
   · rw [om,o7]
     have I:(cur.toList.take n++kj m z++cur.toList.drop (n+m)).toArray.toList=cur.toList.take n++(kj m z++cur.toList.drop (n+m)):=dC _ _ _
     rw [I,xd,dO,A,o6 ab,Nat.sub_self,oq,ed,eI (by rw [dO]; omega),← aj,o7]
end
end Go.Hb
end
section
namespace Go.Hb
open Go.RowKit
def Au (P:Program) (t:TypeId):Option (List Value):=
 match P.info? t,P.underlying t with
 | some it,some (.array _ e)=>
   match it.zero,P.info? e with
   | some z,some ie=>if ie.size=1 then some z.cells.toList else none
   | _,_=>none
 | _,_=>none
def vF:List Value→List (Nat×Value)→Option (List Value)
 | a,[]=>some a
 | a,(i,v)::r=>if (v.oneCell' && iR i a.length)=true then vF (a.set i v) r else none
theorem W5 {a L:List Value} {ps:List (Nat×Value)} (h:vF a ps=some L):oW (fun i=>some (i*1,1)) a.toArray ps=some L.toArray:=by
 induction ps generalizing a with
 | nil=>simp only [vF,fL] at h; subst h; rfl
 | cons q r C=>
   obtain ⟨i,v⟩:=q
   rw [vF] at h
   split at h
   · rename_i j
     simp only [gO] at j
     have A:=qN j.1
     have E:i < a.length:=Nat.le_of_ble_eq_true j.2
     simp only [oW,A,o7]
     rw [if_neg (by simp; omega)]
     have :=C h
     simp only [o7] at this
     rw [← this]
     simp
   · cases h
section
variable {P:Program} {N:Fm} {σ:Nat→Value} {w:World} {dst:Option Nat} {ty:TypeId} {pos :String} {af:Array Edge} {g:Option (Nat×Bool)}
theorem Fz {t:TypeId} {parts:Array (Nat×Operand)} {a L:List Value} {ps:List (Nat×Value)} (h:Au P t=some a) (hp:parts.toList.map (fun q=>(q.1,ev N σ q.2))=ps) (i:vF a ps=some L):
 (execOp (ev N σ) ⟨dst,.build t parts,ty,pos,af,g⟩).run P w= .ok (.value<|.agg L.toArray) w:=by
 unfold Au at h
 split at h
 · rename_i it n e hi hu
   split at h
   · rename_i z C A he
     split at h
     · rename_i hs
       simp only [fL] at h
       subst h
       have j:P.built t (parts.map fun q=>(q.1,ev N σ q.2)).toList=some L.toArray:=by
        have :=W5 i
        simp only [Array.toArray_toList] at this
        simp only [Program.built,hi,hu,A,he,hs,nv,hp]; exact this
       simp [execOp,run_build w t _ _ j]
     · cases h
   · cases h
 · cases h
end
end Go.Hb
end
section
namespace Go.Hb
abbrev bD:Type :=Tx×List Nat
noncomputable def fS (F:aR) (row:List Tx):Except Nat bD:=
 if row.length≠1 then .error 111
 else if (bu<|row.getD 0 []).2.2.2≠0 then .error (bu<|row.getD 0 []).2.2.2
 else if gq (bu<|row.getD 0 []).1=false∨(bu<|row.getD 0 []).1= [] then .error 21
 else if 64 < (bu<|row.getD 0 []).1.length then .error 22
 else if (bu<|row.getD 0 []).2.2.1=false then .ok ((bu<|row.getD 0 []).1,[])
 else match fN F.kind F.aliases (bu<|row.getD 0 []).2.1 with
  | .error e=> .error e
  | .ok set =>if set.all (eB F)=true then .ok ((bu<|row.getD 0 []).1,set) else .error 120
section
variable {F:aR} {row:List Tx}
theorem Hv (h:row.length≠1):fS F row= .error 111:=if_pos h
theorem xT (h:row.length=1) (h1:(bu<|row.getD 0 []).2.2.2≠0):fS F row= .error (bu<|row.getD 0 []).2.2.2:=by
 unfold fS; rw [if_neg (fun h2=>h2 h),if_pos h1]
variable (h:row.length=1) (h1:(bu (row.getD 0 [])).2.2.2=0)
include h h1
theorem xU (h2:gq (bu<|row.getD 0 []).1=false∨(bu<|row.getD 0 []).1= []):fS F row= .error 21:=by
 unfold fS; rw [if_neg (fun h2=>h2 h),if_neg (fun h2=>h2 h1),if_pos h2]
variable (h2:gq (bu (row.getD 0 [])).1=true) (h3:(bu (row.getD 0 [])).1≠[])
include h2 h3
omit h h1 in
theorem uS:¬(gq (bu<|row.getD 0 []).1=false∨(bu<|row.getD 0 []).1= []):=fun h=>h.elim (fun h=>by rw [h2] at h; cases h) h3
theorem Hw (h4:64 < (bu<|row.getD 0 []).1.length):fS F row= .error 22:=by
 unfold fS; rw [if_neg (fun h2=>h2 h),if_neg (fun h2=>h2 h1),if_neg (uS h2 h3),if_pos h4]
variable (h4:¬64 < (bu (row.getD 0 [])).1.length)
include h4
theorem Hx (h5:(bu<|row.getD 0 []).2.2.1=false):fS F row= .ok ((bu<|row.getD 0 []).1,[]):=by
 unfold fS; rw [if_neg (fun h2=>h2 h),if_neg (fun h2=>h2 h1),if_neg (uS h2 h3),if_neg h4,if_pos h5]
variable (h5:(bu (row.getD 0 [])).2.2.1=true)
include h5
theorem Hy {e:Nat} (a:fN F.kind F.aliases (bu<|row.getD 0 []).2.1= .error e):fS F row= .error e:=by
 unfold fS; rw [if_neg (fun h2=>h2 h),if_neg (fun h2=>h2 h1),if_neg (uS h2 h3),if_neg h4,if_neg (by rw [h5]; exact eb),a]
theorem Hz {set :List Nat} {i:Nat} (a:fN F.kind F.aliases (bu<|row.getD 0 []).2.1= .ok set) (hi:i < set.length) (j:eB F (set.getD i 0)=false):fS F row= .error 120:=by
 unfold fS; rw [if_neg (fun h2=>h2 h),if_neg (fun h2=>h2 h1),if_neg (uS h2 h3),if_neg h4,if_neg (by rw [h5]; exact eb),a]
 exact if_neg<|by rw [Fj 0 hi j]; exact eb
theorem Bz {set :List Nat} (a:fN F.kind F.aliases (bu<|row.getD 0 []).2.1= .ok set) (j:∀ i,i < set.length→eB F (set.getD i 0)=true):fS F row= .ok ((bu<|row.getD 0 []).1,set):=by
 unfold fS; rw [if_neg (fun h2=>h2 h),if_neg (fun h2=>h2 h1),if_neg (uS h2 h3),if_neg h4,if_neg (by rw [h5]; exact eb),a]
 exact if_pos<|Fk 0 j
end
noncomputable def eY (F:aR) (eof:Nat):Nat→List Rw→Except (Nat×Nat) (List bD)
 | 0,[]=> .ok []
 | _+1,[]=> .error (eof,116)
 | 0,(ln,_)::_=> .error (ln,116)
 | n+1,(ln,row)::rows=>match fS F row with
   | .error e=> .error (ln,e)
   | .ok x=>match eY F eof n rows with
     | .error e=> .error e
     | .ok r=> .ok (x::r)
noncomputable def e6 (F:aR) (t:Tx):Except (Nat×Nat) (List bD):=
 if 65536 < t.length then .error (0,10)
 else match bN t with
  | []=> .error ((bG t).length+1,116)
  | (ln,row)::rows=>if row.length≠1 then .error (ln,111) else match eS (row.getD 0 []) 8192 with
    | .error e=> .error (ln,e)
    | .ok n=>eY F ((bG t).length+1) n rows
def iL (F:aR) (eof:Nat) (T:Except (Nat×Nat) (List bD)) (xs:List bD) (n:Nat) (rows:List Rw):Prop :=
 T=match eY F eof n rows with
  | .error e=> .error e
  | .ok r=> .ok<|xs++r
section
variable {F:aR} {eof n ln:Nat} {T:Except (Nat×Nat) (List bD)} {xs:List bD} {rows:List Rw} {row:List Tx}
theorem iL.start:iL F eof (eY F eof n rows) [] n rows:=by
 unfold iL; cases eY F eof n rows <;> rfl
theorem iL.done (h:iL F eof T xs 0 []):T= .ok xs:=by
 unfold iL at h; rw [eY] at h; simpa using h
theorem iL.ends (h:iL F eof T xs n []) (hn:0 < n):T= .error (eof,116):=by
 obtain ⟨m,rfl⟩:∃ m,n=m+1:=⟨n - 1,ab⟩
 unfold iL at h; rw [eY] at h; exact h
theorem iL.more (h:iL F eof T xs 0 ((ln,row)::rows)):T= .error (ln,116):=by
 unfold iL at h; rw [eY] at h; exact h
theorem iL.bad {e:Nat} (h:iL F eof T xs n ((ln,row)::rows)) (hn:0 < n) (he:fS F row= .error e):T= .error (ln,e):=by
 obtain ⟨m,rfl⟩:∃ m,n=m+1:=⟨n - 1,ab⟩
 unfold iL at h; rw [eY,he] at h; exact h
theorem iL.step {x:bD} (h:iL F eof T xs n ((ln,row)::rows)) (hn:0 < n) (he:fS F row= .ok x):iL F eof T (xs++ [x]) (n - 1) rows:=by
 obtain ⟨m,rfl⟩:∃ m,n=m+1:=⟨n - 1,ab⟩
 unfold iL at h ⊢; rw [eY,he] at h
 rw [h,sx]
 simp only
 cases eY F eof m rows <;> simp
end
section
variable {F:aR} {t:Tx}
theorem Hn (h:65536 < t.length):e6 F t= .error (0,10):=if_pos h
theorem Ho (h:¬65536 < t.length) (h1:bN t= []):e6 F t= .error ((bG t).length+1,116):=by
 unfold e6; rw [if_neg h,h1]
variable {ln:Nat} {row:List Tx} {rows:List Rw} (h:¬65536 < t.length) (h1:bN t=(ln,row)::rows)
include h h1
theorem Sw (h2:row.length≠1):e6 F t= .error (ln,111):=by
 unfold e6; rw [if_neg h,h1]; exact if_pos h2
theorem Sz (h2:row.length=1) {e:Nat} (h3:eS (row.getD 0 []) 8192= .error e):e6 F t= .error (ln,e):=by
 unfold e6; rw [if_neg h,h1]; simp only; rw [if_neg (fun h=>h h2),h3]
theorem Hm (h2:row.length=1) {n:Nat} (h3:eS (row.getD 0 []) 8192= .ok n):e6 F t=eY F ((bG t).length+1) n rows:=by
 unfold e6; rw [if_neg h,h1]; simp only; rw [if_neg (fun h=>h h2),h3]
end
theorem TX {α:Type} {a b:List α} {i:Nat} {d:α} (h:i < a.length):(a++b).getD i d=a.getD i d:=by
 rw [cQ,cQ,mg h]
def idxs (s:Tx) (xs:List bD):List Nat:=(jZ xs.length).filter fun i=>decide ((xs.getD i ([],[])).1=s)
theorem Cx (s:Tx) (xs:List bD) (x:bD):idxs s (xs++ [x])=idxs s xs++(if x.1=s then [xs.length] else []):=by
 unfold idxs
 rw [bI,eW,List.range_succ,List.filter_append]
 congr 1
 · refine List.filter_congr fun i hi=> ?_
   have hi:i < xs.length:=by simpa using hi
   rw [TX hi]
 · by_cases a:x.1=s <;> simp [List.filter,a]
theorem Jc (s:Tx) (xs:List bD):(idxs s xs).length≤xs.length:=by
 unfold idxs; have :=zX (fun i=>decide ((xs.getD i ([],[])).1=s)) (jZ xs.length); simpa using this
theorem SR {F:aR} {eof:Nat} :∀ {n:Nat} {rows:List Rw} {r:List bD},eY F eof n rows= .ok r→r.length=n∧rows.length=n:=by
 intro n
 induction n with
 | zero=>
   intro rows r h
   cases rows with
   | nil=>rw [eY] at h; cases h; exact ⟨rfl,rfl⟩
   | cons q rows=>rw [eY] at h; cases h
 | succ n a=>
   intro rows r h
   cases rows with
   | nil=>rw [eY] at h; cases h
   | cons q rows=>
     rw [eY] at h
     split at h
     · cases h
     · split at h
       · cases h
       · rename_i h2
         cases h
         have :=a h2
         simp only [cM]; omega
end Go.Hb
end
section
namespace Go.Hb
section
variable {P:Program} {N:Fm} {σ:Nat→Value} {w:World} {dst:Option Nat} {ty:TypeId} {pos :String} {af:Array Edge} {g:Option (Nat×Bool)} {x:Operand}
theorem OI {t n i b:Nat} (he:qn P t=some (n,i)) (a:ev N σ x= .pointer (some ⟨b,0,none⟩)):
 (execOp (ev N σ) ⟨dst,.slice t x none none none,ty,pos,af,g⟩).run P w= .ok (.value<|.slice (some ⟨b,0,none⟩) n n) w:=by
 unfold qn at he
 cases hd:P.underlying t with
 | none=>rw [hd] at he; cases he
 | some d=>
   rw [hd] at he
   cases d <;> first | (cases he; done) | skip
   rename_i m e
   cases hi:P.info? e with
   | none=>simp [hi] at he
   | some j=>
     simp only [hi,mh,fL,sE] at he
     obtain ⟨rfl,rfl⟩:=he
     simp [execOp,si,qZ,oX,a,eu hd,sizeOf,jc hi,mr]
def BJ (P:Program) (t f:Nat):Option (Nat×Nat):=
 match P.underlying t with
 | some (.struct fs)=>(fs[f]?).map fun d=>(d.type,d.offset)
 | _=>none
theorem Tq {t f j off n:Nat} {cs vs:List Value} (h:BJ P t f=some (j,off)) (a:dy P j=some (some n)) (C:ev N σ x= .agg cs.toArray) (A:(cs.drop off).take n=vs):
 (execOp (ev N σ) ⟨dst,.field t x f,ty,pos,af,g⟩).run P w= .ok (.value<|.agg vs.toArray) w:=by
 subst A
 unfold BJ at h
 cases hd:P.underlying t with
 | none=>rw [hd] at h; cases h
 | some d=>
   rw [hd] at h
   cases d <;> first | (cases h; done) | skip
   rename_i fs
   simp only [pc] at h
   obtain ⟨fd,q,he⟩:=h
   cases he
   unfold dy at a
   cases hd2:P.underlying fd.type with
   | none=>rw [hd2] at a; cases a
   | some d2=>
     rw [hd2] at a
     cases hi:P.info? fd.type with
     | none=>simp [Nb,hi] at hd2
     | some i=>
       rw [hi] at a
       have E:cs.toArray.extract fd.offset (fd.offset+n)=((cs.drop fd.offset).take n).toArray:=by simp
       cases d2 <;> first
        | (cases a; done)
        | (simp only [mh,fL] at a; subst a
           simp [execOp,M3,eu hd,q,C,asAgg,part,isAgg,eu hd2,sizeOf,jc hi])
end
end Go.Hb
end
section
namespace Go.Hb
def nJ:c7:=⟨0,0,false,0,0⟩
def gE (F:aR):c7:=F.bp.getD (F.bp.length - 1) nJ
noncomputable def iY (F:aR) (ln:Nat) (row:List Tx):Except Nat aR:=
 if row.getD 0 []=e5 then (match kE ln row with | .error e=> .error e | .ok x=> .ok {F with dd:=F.dd++ [x]})
 else if row.getD 0 []=eE then (match kp F.kind ln row with | .error e=> .error e | .ok x=> .ok {F with aliases:=F.aliases++ [x]})
 else match fA F.kind F.aliases (gE F) ln row with | .error e=> .error e | .ok x=> .ok {F with rules:=F.rules++ [x]}
noncomputable def gJ (hd:List Tx) (eof:Nat):Nat→aR→List Rw→Except (Nat×Nat) (aR×List Rw)
 | 0,F,rows=> .ok (F,rows)
 | _+1,F,[]=> .error (eof,116)
 | n+1,F,(ln,row)::rows=>if row.take hd.length≠hd then .error (ln,116) else match iY F ln row with
   | .error e=> .error (ln,e)
   | .ok F'=>gJ hd eof n F' rows
theorem zk {row:List Tx} {k:Tx} (h:row≠[]):row.take [k].length= [k]↔row.getD 0 []=k:=by
 cases row with
 | nil=>exact absurd rfl h
 | cons a l=>simp
theorem zl {row:List Tx} {k j:Tx} :row.take [k,j].length= [k,j]↔2≤row.length∧row.getD 0 []=k∧row.getD 1 []=j:=by
 match row with
 | []=>simp
 | [a]=>simp
 | a::b::l=>simp
section
variable {eof:Nat}
theorem T6:∀ (n:Nat) (F:aR) (rows:List Rw),gJ [e5] eof n F rows=match group [e5] kE eof n rows with | .error e=> .error e | .ok r=> .ok ({F with dd:=F.dd++r.1},r.2):=by
 intro n
 induction n with
 | zero=>intro F rows; simp [gJ,group]
 | succ n j=>
   intro F rows
   cases rows with
   | nil=>simp [gJ,group]
   | cons q rows=>
     obtain ⟨ln,row⟩:=q
     simp only [gJ,group]
     by_cases a:row.take [e5].length≠[e5]
     · rw [if_pos a,if_pos a]
     · rw [if_neg a,if_neg a]
       have i:row.getD 0 []=e5:=by
        refine (zk ?_).1<|jn.1 a
        rintro rfl; exact a<|by simp
       unfold iY
       rw [if_pos i]
       cases kE ln row with
       | error e=>rfl
       | ok x=>
         simp only
         rw [j]
         cases group [e5] kE eof n rows with
         | error e=>rfl
         | ok r=>simp only [dC]; rfl
theorem T5:∀ (n:Nat) (F:aR) (rows:List Rw),gJ [eE] eof n F rows=match group [eE] (kp F.kind) eof n rows with | .error e=> .error e | .ok r=> .ok ({F with aliases:=F.aliases++r.1},r.2):=by
 intro n
 induction n with
 | zero=>intro F rows; simp [gJ,group]
 | succ n j=>
   intro F rows
   cases rows with
   | nil=>simp [gJ,group]
   | cons q rows=>
     obtain ⟨ln,row⟩:=q
     simp only [gJ,group]
     by_cases a:row.take [eE].length≠[eE]
     · rw [if_pos a,if_pos a]
     · rw [if_neg a,if_neg a]
       have i:row.getD 0 []=eE:=by
        refine (zk ?_).1<|jn.1 a
        rintro rfl; exact a<|by simp
       unfold iY
       rw [if_neg (by rw [i]; decide),if_pos i]
       cases kp F.kind ln row with
       | error e=>rfl
       | ok x=>
         simp only
         rw [j]
         cases group [eE] (kp F.kind) eof n rows with
         | error e=>rfl
         | ok r=>simp only [dC]; rfl
theorem T7 {a h1:Tx} (hk:a≠e5) (A:a≠eE):∀ (n:Nat) (F:aR) (rows:List Rw),gJ [a,h1] eof n F rows=match group [a,h1] (fA F.kind F.aliases<|gE F) eof n rows with | .error e=> .error e | .ok r=> .ok ({F with rules:=F.rules++r.1},r.2):=by
 intro n
 induction n with
 | zero=>intro F rows; simp [gJ,group]
 | succ n C=>
   intro F rows
   cases rows with
   | nil=>simp [gJ,group]
   | cons q rows=>
     obtain ⟨ln,row⟩:=q
     simp only [gJ,group]
     by_cases i:row.take [a,h1].length≠[a,h1]
     · rw [if_pos i,if_pos i]
     · rw [if_neg i,if_neg i]
       have j:row.getD 0 []=a:=(zl.1<|jn.1 i).2.1
       unfold iY
       rw [if_neg (by rw [j]; exact hk),if_neg (by rw [j]; exact A)]
       cases fA F.kind F.aliases (gE F) ln row with
       | error e=>rfl
       | ok x=>
         simp only
         rw [C]
         show (match group [a,h1] (fA F.kind F.aliases<|gE F) eof n rows with | .error e=>_ | .ok r=>_)=_
         cases group [a,h1] (fA F.kind F.aliases<|gE F) eof n rows with
         | error e=>rfl
         | ok r=>simp only [dC]; rfl
end
section
variable {hd:List Tx} {eof n ln:Nat} {F:aR} {row:List Tx} {rows:List Rw} {T:Except (Nat×Nat) (aR×List Rw)}
theorem T3 (h:gJ hd eof n F []=T) (hn:0 < n):T= .error (eof,116):=by
 obtain ⟨m,rfl⟩:∃ m,n=m+1:=⟨n - 1,ab⟩
 exact h.symm
theorem Cl (h:gJ hd eof n F ((ln,row)::rows)=T) (hn:0 < n) (a:row.take hd.length≠hd):T= .error (ln,116):=by
 obtain ⟨m,rfl⟩:∃ m,n=m+1:=⟨n - 1,ab⟩
 rw [← h,gJ,if_pos a]
theorem T1 {e:Nat} (h:gJ hd eof n F ((ln,row)::rows)=T) (hn:0 < n) (a:row.take hd.length=hd) (he:iY F ln row= .error e):T= .error (ln,e):=by
 obtain ⟨m,rfl⟩:∃ m,n=m+1:=⟨n - 1,ab⟩
 rw [← h,gJ,if_neg (fun h2=>h2 a),he]
theorem T4 {F':aR} (h:gJ hd eof n F ((ln,row)::rows)=T) (hn:0 < n) (a:row.take hd.length=hd) (he:iY F ln row= .ok F'):gJ hd eof (n - 1) F' rows=T:=by
 obtain ⟨m,rfl⟩:∃ m,n=m+1:=⟨n - 1,ab⟩
 rw [← h,gJ,if_neg (fun h2=>h2 a),he]; rfl
theorem T2 (h:gJ hd eof 0 F rows=T):T= .ok (F,rows):=h.symm
end
def kz (head:List Tx):List Tx:=if head.length=4 then [head.getD 0 [],head.getD 1 []] else [head.getD 0 []]
theorem I1 {head:List Tx} (h:head.length≠4):kz head= [head.getD 0 []]:=if_neg h
theorem I2 {head:List Tx} (h:head.length=4):kz head= [head.getD 0 [],head.getD 1 []]:=if_pos h
theorem UC {head row:List Tx} (h:row.getD 0 []≠head.getD 0 []):row.take (kz head).length≠kz head:=by
 unfold kz
 split
 · exact fun h2=>h (zl.1 h2).2.1
 · intro h2
   cases row with
   | nil=>simp at h2
   | cons a l=>exact h<|(zk<|by simp).1 h2
theorem I4 {head row:List Tx} (h4:head.length=4) (h:row.length < 2∨row.getD 1 []≠head.getD 1 []):row.take (kz head).length≠kz head:=by
 rw [I2 h4]
 intro h2
 have :=zl.1 h2
 rcases h with h | h
 · omega
 · exact h this.2.2
theorem I5 {head row:List Tx} (a:row.getD 0 []=head.getD 0 []) (i:row≠[]) (h1:head.length=4→2≤row.length∧row.getD 1 []=head.getD 1 []):row.take (kz head).length=kz head:=by
 unfold kz
 split
 · rename_i h4; exact zl.2 ⟨(h1 h4).1,a,(h1 h4).2⟩
 · exact (zk i).2 a
def pS (k:Tx):Int:=if k∈dZ then (dZ.idxOf k:Nat) else -1
theorem tG {k:Tx} :(0≤pS k)↔k∈dZ:=by
 unfold pS; split
 · rename_i h; exact ⟨fun _=>h,fun _=>by omega⟩
 · rename_i h; exact ⟨fun h2=>by omega,fun h2=>absurd h2 h⟩
end Go.Hb
end
section
namespace Go.Hb
def n7 (ps:List Tx) (w:Tx):Bool:=decide (ps.length≤w.length) && (jZ ps.length).all fun i=>cB (ps.getD i [])<|w.getD i 0
def qz (ps:List Tx) (w:Tx):Bool:=decide (ps.length≤w.length) && n7 ps (w.drop<|w.length - ps.length)
noncomputable def iu (r:c8) (w:Tx):Bool:=
 decide ((da r.cond).2=0∧r.strip.length < w.length) &&
  (if r.kind=2 then decide (w.drop (w.length - r.strip.length)=r.strip) && qz (da r.cond).1 w
   else if r.kind=1 then decide (w.take r.strip.length=r.strip) && n7 (da r.cond).1 w else false)
noncomputable def dA (r:c8) (w:Tx):Option Tx:=if iu r w=true then some (if r.kind=2 then w.take (w.length - r.strip.length)++r.add else r.add++w.drop r.strip.length) else none
def eT:c8:=⟨0,0,false,[],[],[],[],0⟩
def aV (F:aR) (fs:List Nat) (kind:Nat):List Nat:=(jZ F.rules.length).filter fun i=>decide ((F.rules.getD i eT).kind=kind∧(F.rules.getD i eT).flag∈fs)
def flagsOf (xs:List bD) (e:Int):List Nat:=if 0≤e∧e < xs.length then (xs.getD e.toNat ([],[])).2 else []
def cR (F:aR) (r:Int):List Nat:=if 0≤r∧r < F.rules.length then (F.rules.getD r.toNat eT).next else []
def rP (F:aR) (xs:List bD) (e:Int) (k:Nat):Bool:=decide (F.sp.getD k 0≠0∧F.sp.getD k 0∈flagsOf xs e)
def nM (F:aR) (r:Int):Bool:=decide (0≤r∧r < F.rules.length) && !decide (F.sp.getD 0 0≠0∧F.sp.getD 0 0∈cR F r)
structure cx where
 kG:Tx
 s9:Nat
 fst:Int
 snd:Int
 pre:Int
def lG (F:aR) (n:Int):Bool:=decide (n= -1) || (F.rules.getD n.toNat eT).ei
def fi (F:aR) (xs:List bD) (e:Nat) (f s p:Int):Bool:=
 if f= -1 then decide (p≠ -1) || !rP F xs e 0
 else if nM F (if s= -1 then f else s)=false then false
 else decide (p= -1) || (lG F f && lG F s && lG F p)
def kt (F:aR) (xs:List bD) (e:Nat) (word:Tx) (f s:Int):List cx:=if fi F xs e f s (-1)=true then [⟨word,e,f,s,-1⟩] else []
noncomputable def jt (F:aR) (xs:List bD) (e:Nat) (word:Tx) (f s:Int) (p:Nat):Option cx:=if fi F xs e f s p=true then (dA (F.rules.getD p eT) word).map (fun v=>(⟨v,e,f,s,(p:Int)⟩:cx)) else none
noncomputable def ew (F:aR) (xs:List bD) (e:Nat) (word:Tx) (f s:Int):List cx:=kt F xs e word f s++(aV F (flagsOf xs e) 1).filterMap (jt F xs e word f s)
noncomputable def je (F:aR) (xs:List bD) (e:Nat) (w:Tx) (s:Int) (z:Nat):List cx:=match dA (F.rules.getD z eT) w with
 | none=> []
 | some v=>ew F xs e v s z
noncomputable def fT (F:aR) (xs:List bD) (e:Nat) (s:Nat):List cx:=match dA (F.rules.getD s eT) (xs.getD e ([],[])).1 with
 | none=> []
 | some w=>ew F xs e w s (-1)++(aV F (cR F s) 2).flatMap (je F xs e w s)
noncomputable def lI (F:aR) (xs:List bD) (e:Nat):List cx:=
 ew F xs e (xs.getD e ([],[])).1 (-1) (-1)++(aV F (flagsOf xs e) 2).flatMap (fT F xs e)
def jQ (q:c8):Prop :=q.strip.length≤32∧q.add.length≤32∧q.cond.length≤4800
structure pk (F:aR):Prop where
 part:∀ (i:Nat) r,F.rules[i]? =some r→∃ c∈F.bp,c.first≤i∧i < c.first+c.count∧r.flag=c.flag∧r.kind=c.kind
 uO:∀ c∈F.bp,c.first+c.count≤F.rules.length∧∀ i,c.first≤i→i < c.first+c.count→∃ r,F.rules[i]? =some r∧r.flag=c.flag∧r.kind=c.kind
 uniq:(F.bp.map (·.flag)).Nodup
theorem IP {α:Type} {hd:List Tx} {rd:Nat→List Tx→Except Nat α} {eof:Nat} :∀ (n:Nat) (rows:List Rw) (r:List α×List Rw),group hd rd eof n rows= .ok r→∀ x∈r.1,∃ ln row,rd ln row= .ok x:=by
 intro n
 induction n with
 | zero=>intro rows r h; simp only [group,sg] at h; subst h; intro x a; cases a
 | succ n i=>
   intro rows r h
   cases rows with
   | nil=>simp [group] at h
   | cons q rows=>
     obtain ⟨ln,row⟩:=q
     simp only [group] at h
     split at h
     · cases h
     · cases hr:rd ln row with
       | error e=>rw [hr] at h; cases h
       | ok y=>
         rw [hr] at h
         simp only at h
         cases hg:group hd rd eof n rows with
         | error e=>rw [hg] at h; cases h
         | ok j=>
           rw [hg] at h
           simp only [sg] at h
           subst h
           intro x a
           rcases gl.1 a with a | a
           · exact ⟨ln,row,by rw [a]; exact hr⟩
           · exact i rows j hg x a
theorem I8 {eof ln:Nat} {F F':aR} {hs:List Tx} {rows rows':List Rw} {row:List Tx} (a:bY eof F hs rows ln row= .ok (F',rows')):
 (F'.aliases=F.aliases∧F'.bp=F.bp∧F'.rules=F.rules)∨
 (F'.bp=F.bp∧F'.rules=F.rules∧∃ l,F'.aliases=F.aliases++l∧∀ x∈l,∃ kd s,kO kd s= .ok x)∨
 (F'.aliases=F.aliases∧∃ c l,F'.bp=F.bp++ [c]∧F'.rules=F.rules++l∧c.first=F.rules.length∧c.count=l.length∧eB F c.flag=false∧∀ x∈l,∃ ln row,fA F.kind F.aliases c ln row= .ok x):=by
 unfold bY at a
 split at a
 · unfold kh at a; split at a <;> cases a; exact .inl ⟨rfl,rfl,rfl⟩
 split at a
 · unfold kB at a
   split at a
   · cases a
   · split at a <;> cases a; exact .inl ⟨rfl,rfl,rfl⟩
 split at a
 · unfold mK at a; split at a <;> cases a; exact .inl ⟨rfl,rfl,rfl⟩
 split at a
 · unfold mP at a; split at a <;> cases a; exact .inl ⟨rfl,rfl,rfl⟩
 split at a
 · unfold kS at a
   split at a
   · cases a
   · split at a <;> cases a; exact .inl ⟨rfl,rfl,rfl⟩
 split at a
 · unfold kg at a
   split at a
   · cases a
   · split at a <;> cases a; exact .inl ⟨rfl,rfl,rfl⟩
 split at a
 · unfold jS at a
   split at a
   · cases a
   · split at a
     · cases a
     · split at a
       · cases a
       · rename_i r j
         cases a
         refine .inr<|.inl ⟨aa,aa,r.1,aa,fun x a=> ?_⟩
         obtain ⟨ln,row,h⟩:=IP _ _ _ j x a
         unfold kp at h
         split at h
         · cases h
         · exact ⟨_,_,h⟩
 · unfold gH at a
   split at a
   · cases a
   · rename_i x i
     split at a
     · cases a
     · split at a
       · cases a
       · split at a
         · cases a
         · split at a
           · cases a
           · rename_i r j
             cases a
             refine .inr<|.inr ⟨aa,_,r.1,aa,aa,aa,(yA _ _ _ j).2.1.symm,?_,fun x a=>IP _ _ _ j x a⟩
             unfold gD at i
             split at i
             · cases i
             · split at i
               · cases i
               · rename_i h; cases i; simpa using h
theorem E5 {Q:aR→Prop} (i:Q gV) (A:∀ (eof ln:Nat) (F F':aR) (hs:List Tx) (rows rows':List Rw) (row:List Tx),Q F→bY eof F hs rows ln row= .ok (F',rows')→Q F') {s:Tx} {F:aR} (h:ff s= .ok F):Q F:=by
 unfold ff at h
 split at h
 · cases h
 · split at h
   · cases h
   · rename_i f j
     split at h
     · cases h
     · cases h
       have key:∀ (k:Nat) (F F':aR) (hs:List Tx) (rows:List Rw) (eof:Nat),Q F→gF eof k F hs rows= .ok F'→Q F':=by
        intro k
        induction k with
        | zero=>intro F F' hs rows eof h a; rw [gF] at a; split at a <;> cases a; exact h
        | succ k E=>
          intro F F' hs rows eof h a
          cases rows with
          | nil=>simp only [gF,sg] at a; exact a ▸ h
          | cons q rows=>
            rw [gF] at a
            split at a
            · cases a
            · split at a
              · cases a
              · split at a
                · cases a
                · split at a
                  · cases a
                  · rename_i r C
                    exact E _ _ _ _ _ (A _ _ _ _ _ _ _ _ h C) a
       exact key _ _ _ _ _ _ i j
def k3 (l:List Nat):Prop :=l.Pairwise (· < ·)∧0∉l
theorem TL {kind:Nat} {s:Tx} (a:(dX kind s).2=0):k3 (dX kind s).1:=by
 unfold dX at a ⊢
 by_cases h1:s= []
 · rw [if_pos h1] at a; cases a
 · rw [if_neg h1] at a ⊢
   by_cases h2:∃ x∈dE kind s,eD kind x=0
   · rw [if_pos h2] at a; cases a
   · rw [if_neg h2] at a ⊢
     by_cases h3:64 < (dE kind s).length
     · rw [if_pos h3] at a; cases a
     · rw [if_neg h3]
       refine ⟨CZ _,fun h4=> ?_⟩
       rw [CY,o4] at h4
       exact h2 h4
theorem Iw {kind:Nat} {s:Tx} {l:List Nat} (h:kO kind s= .ok l):k3 l:=by
 unfold kO at h
 split at h
 · cases h
 · rename_i a
   cases h
   exact TL<|jn.1 a
def sG (F:aR):Prop :=(∀ l∈F.aliases,k3 l)∧∀ q∈F.rules,k3 q.next∧jQ q
theorem HT {w:Tx} (h:¬gB w≠0):w.length≤32:=by
 unfold gB at h
 split at h
 · exact absurd az h
 · split at h
   · exact absurd az h
   · omega
theorem WU {b:Bool} {fd p:Tx} (h:et b fd= .ok p):p.length≤32:=by
 unfold et at h
 split at h
 · cases h; exact jD _
 · split at h
   · cases h
   · split at h
     · cases h
     · split at h
       · cases h
       · rename_i a; cases h; exact HT a
theorem Og {r:lD} {p:Tx} (h:jJ r= .ok p):p.length≤32:=by
 unfold jJ at h
 split at h
 · cases h
 · split at h
   · cases h; exact jD _
   · split at h
     · cases h
     · rename_i a; cases h; exact HT a
theorem GV (s:Tx):(da s).1.length≤16:=by
 unfold da
 split
 · simp
 · split
   · simp
   · split
     · simp
     · split
       · simp
       · simp only; omega
theorem X2:∀ {ps:List Tx},ps.length≤16→(l6 ps).length≤4800:=by
 have key:∀ ps:List Tx,(ps.flatMap fun t=>gM<|cB t).length≤ps.length*300:=by
  intro ps
  induction ps with
  | nil=>exact jD _
  | cons t ps a=>
    have :=Dw<|cB t
    rw [rh,bI,cM]; omega
 intro ps h
 unfold l6
 split
 · simp
 · have :=key ps; omega
theorem RE {row:List Tx} {c:Tx} (h:kM row= .ok c):c.length≤4800:=by
 unfold kM at h
 split at h
 · split at h
   · cases h
   · split at h
     · cases h
     · cases h; exact X2<|GV _
 · cases h; simp
theorem vm:k3 []:=⟨.nil,ur⟩
theorem H4 {kind:Nat} {al:List (List Nat)} {s:Tx} {l:List Nat} (a:∀ l∈al,k3 l) (h:fN kind al s= .ok l):k3 l:=by
 unfold fN at h
 split at h
 · exact Iw h
 · split at h
   · cases h
   · split at h
     · cases h
     · cases h
       rename_i n _ _
       rw [cQ]
       cases hg:al[n - 1]? with
       | none=>exact vm
       | some x=>exact a x<|iJ hg
theorem Dt {kind ln:Nat} {al:List (List Nat)} {c:c7} {row:List Tx} {q:c8} (j:∀ l∈al,k3 l) (h:fA kind al c ln row= .ok q):(k3 q.next∧jQ q)∧q.flag=c.flag∧q.kind=c.kind∧q.ei=c.ei:=by
 unfold fA at h
 split at h
 · cases h
 · split at h
   · cases h
   · rename_i hp
     split at h
     · cases h
     · rename_i i
       split at h
       · cases h
       · rename_i nx a
         split at h
         · cases h
         · rename_i A
           cases h
           refine ⟨⟨?_,WU hp,Og i,RE A⟩,aa,aa,aa⟩
           unfold kT at a
           split at a
           · split at a
             · cases a
             · exact H4 j a
           · cases a; exact vm
theorem BK {cs:List c7} {x:Nat} (h:(dU cs x).isSome=false):∀ c∈cs,c.flag≠x:=fun c a i=>by
 unfold dU at h
 have h1:cs.find? (fun c=>decide (c.flag=x))=none:=by
  cases h2:cs.find? (fun c=>decide (c.flag=x)) with
  | none=>rfl
  | some y=>rw [h2] at h; cases h
 have :=List.find?_eq_none.1 h1 c a
 simp [i] at this
theorem Ag {s:Tx} {F:aR} (h:ff s= .ok F):sG F∧pk F:=by
 refine E5 (Q:=fun F=>sG F∧pk F) ⟨⟨fun l O=>(by cases O),fun l O=>by cases O⟩,⟨fun i r h=>(by cases h),fun c h=>(by cases h),.nil⟩⟩ ?_ h
 rintro eof ln F F' hs rows rows' row ⟨A,C⟩ j
 refine ⟨?_,?_⟩
 · rcases I8 j with ⟨h1,_,h3⟩ | ⟨_,h2,l,h3,h4⟩ | ⟨h1,c,l,_,h3,_,_,_,h4⟩
   · exact ⟨h1 ▸ A.1,h3 ▸ A.2⟩
   · refine ⟨fun x j=> ?_,h2 ▸ A.2⟩
     rw [h3] at j
     rcases jz.1 j with j | j
     · exact A.1 x j
     · obtain ⟨_,_,h⟩:=h4 x j; exact Iw h
   · refine ⟨h1 ▸ A.1,fun x j=> ?_⟩
     rw [h3] at j
     rcases jz.1 j with j | j
     · exact A.2 x j
     · obtain ⟨_,_,h⟩:=h4 x j; exact (Dt A.1 h).1
 · rcases I8 j with ⟨_,h2,h3⟩ | ⟨h2,h3,_⟩ | ⟨_,c,l,h2,h3,h4,h5,M,Y⟩
   · exact ⟨by rw [h2,h3]; exact C.part,by rw [h2,h3]; exact C.uO,by rw [h2]; exact C.uniq⟩
   · exact ⟨by rw [h2,h3]; exact C.part,by rw [h2,h3]; exact C.uO,by rw [h2]; exact C.uniq⟩
   · have U:∀ i,F.rules.length≤i→i < F.rules.length+l.length→∃ r,F'.rules[i]? =some r∧r.flag=c.flag∧r.kind=c.kind:=fun i E I=>by
      have q:i - F.rules.length < l.length:=ab
      refine ⟨l[i - F.rules.length],?_,?_⟩
      · rw [h3,mT E,cz q]
      · obtain ⟨_,_,h⟩:=Y _ (List.getElem_mem q); exact ⟨(Dt A.1 h).2.1,(Dt A.1 h).2.2.1⟩
     refine ⟨fun i r E=> ?_,fun d hd=> ?_,?_⟩
     · by_cases I:i < F.rules.length
       · rw [h3,mg I] at E
         obtain ⟨d,hd,q⟩:=C.part i r E
         exact ⟨d,by rw [h2]; exact List.mem_append_left _ hd,q⟩
       · have q:i < F.rules.length+l.length:=by
          have :=(fJ.1 E).1; rw [h3,bI] at this; exact this
         obtain ⟨ae,G,J⟩:=U i ab q
         rw [E] at G; cases G
         exact ⟨c,by rw [h2]; exact List.mem_append_right _ (jY.2 aa),ab,ab,J⟩
     · rw [h2] at hd
       rcases jz.1 hd with hd | hd
       · obtain ⟨E,I⟩:=C.uO d hd
         refine ⟨by rw [h3,bI]; omega,fun i q G=> ?_⟩
         obtain ⟨r,J,V⟩:=I i q G
         exact ⟨r,by rw [h3,mg ab]; exact J,V⟩
       · obtain rfl :=jY.1 hd
         refine ⟨by rw [h3,bI]; omega,fun i q G=>U i ab ab⟩
     · rw [h2,ig,EG]
       refine ⟨C.uniq,by simp,fun a Z b ac=> ?_⟩
       obtain ⟨d,hd,rfl⟩:=o4.1 Z
       obtain rfl :b=c.flag:=by simpa using ac
       unfold eB at M
       rw [nw] at M
       exact BK M.2 d hd
theorem SJ {F:aR} {row:List Tx} {x:bD} (a:sG F) (h:fS F row= .ok x):k3 x.2:=by
 unfold fS at h
 split at h
 · cases h
 · split at h
   · cases h
   · split at h
     · cases h
     · split at h
       · cases h
       · split at h
         · cases h; exact vm
         · split at h
           · cases h
           · rename_i set hs
             split at h
             · cases h; exact H4 a.1 hs
             · cases h
theorem SQ {F:aR} (j:sG F) {eof:Nat} :∀ {n:Nat} {rows:List Rw} {r:List bD},eY F eof n rows= .ok r→∀ x∈r,k3 x.2:=by
 intro n
 induction n with
 | zero=>
   intro rows r h
   cases rows with
   | nil=>rw [eY] at h; cases h; intro x a; cases a
   | cons q rows=>rw [eY] at h; cases h
 | succ n A=>
   intro rows r h
   cases rows with
   | nil=>rw [eY] at h; cases h
   | cons q rows=>
     rw [eY] at h
     split at h
     · cases h
     · rename_i x a
       split at h
       · cases h
       · rename_i h2
         cases h
         intro y i
         rcases gl.1 i with rfl | i
         · exact SJ j a
         · exact A h2 y i
theorem Sx {F:aR} (a:sG F) {t:Tx} {xs:List bD} (h:e6 F t= .ok xs):∀ x∈xs,k3 x.2:=by
 unfold e6 at h
 split at h
 · cases h
 · split at h
   · cases h
   · split at h
     · cases h
     · split at h
       · cases h
       · exact SQ a h
theorem SL {F:aR} {row:List Tx} {x:bD} (h:fS F row= .ok x):1≤x.1.length:=by
 unfold fS at h
 split at h
 · cases h
 · split at h
   · cases h
   · split at h
     · cases h
     · rename_i i
       have h1:1≤(bu<|row.getD 0 []).1.length:=by
        rcases Nat.eq_zero_or_pos (bu<|row.getD 0 []).1.length with a | a
        · exact absurd (Or.inr<|fO a) i
        · exact a
       split at h
       · cases h
       · split at h
         · cases h; exact h1
         · split at h
           · cases h
           · split at h
             · cases h; exact h1
             · cases h
theorem SU {F:aR} {eof:Nat} :∀ {n:Nat} {rows:List Rw} {r:List bD},eY F eof n rows= .ok r→∀ x∈r,1≤x.1.length:=by
 intro n
 induction n with
 | zero=>
   intro rows r h
   cases rows with
   | nil=>rw [eY] at h; cases h; intro x a; cases a
   | cons q rows=>rw [eY] at h; cases h
 | succ n j=>
   intro rows r h
   cases rows with
   | nil=>rw [eY] at h; cases h
   | cons q rows=>
     rw [eY] at h
     split at h
     · cases h
     · rename_i x a
       split at h
       · cases h
       · rename_i h2
         cases h
         intro y i
         rcases gl.1 i with rfl | i
         · exact SL a
         · exact j h2 y i
theorem SA {F:aR} {t:Tx} {xs:List bD} (h:e6 F t= .ok xs):∀ x∈xs,1≤x.1.length:=by
 unfold e6 at h
 split at h
 · cases h
 · split at h
   · cases h
   · split at h
     · cases h
     · split at h
       · cases h
       · exact SU h
theorem rQ {F:aR} {fs:List Nat} {k i:Nat} :i∈aV F fs k↔i < F.rules.length∧(F.rules.getD i eT).kind=k∧(F.rules.getD i eT).flag∈fs:=by
 unfold aV; simp
theorem JZ (F:aR) (fs:List Nat) (k:Nat):(aV F fs k).Pairwise (· < ·):=ZZ _ NM
theorem rT (F:aR) (fs:List Nat) (k:Nat):(aV F fs k).length≤F.rules.length:=by
 unfold aV; have :=zX (fun i=>decide ((F.rules.getD i eT).kind=k∧(F.rules.getD i eT).flag∈fs)) (jZ F.rules.length); simpa using this
def gA (F:aR) (k f:Nat):List Nat:=match dU F.bp f with
 | some c=>if c.kind=k then (jZ c.count).map (c.first+ ·) else []
 | none=> []
theorem HO {cs:List c7} {x:Nat} {c:c7} (h:dU cs x=some c):c∈cs∧c.flag=x:=⟨List.mem_of_find?_eq_some h,by simpa using List.find?_some h⟩
theorem Tk:∀ {cs:List c7},(cs.map (·.flag)).Nodup→∀ c∈cs,dU cs c.flag=some c:=by
 intro cs
 induction cs with
 | nil=>intro _ c h; cases h
 | cons d cs j=>
   intro h c a
   rw [um,List.nodup_cons] at h
   unfold dU
   rw [List.find?_cons]
   rcases gl.1 a with rfl | a
   · simp
   · have i:¬d.flag=c.flag:=fun h2=>h.1<|o4.2 ⟨c,a,h2.symm⟩
     rw [decide_eq_false i]
     exact j h.2 c a
theorem yM {F:aR} (a:pk F) {k f i:Nat} :i∈gA F k f↔i < F.rules.length∧(F.rules.getD i eT).kind=k∧(F.rules.getD i eT).flag=f:=by
 unfold gA
 constructor
 · intro h
   split at h
   · rename_i c q
     split at h
     · rename_i hk
       obtain ⟨j,I,rfl⟩:=o4.1 h
       rw [uq] at I
       have h1:=HO q
       obtain ⟨h2,h3⟩:=a.uO c h1.1
       obtain ⟨r,h4,h5,A⟩:=h3 (c.first+j) ab ab
       refine ⟨ab,?_⟩
       rw [cQ,h4]
       exact ⟨A.trans hk,h5.trans h1.2⟩
     · cases h
   · cases h
 · rintro ⟨h1,h2,h3⟩
   have h4:F.rules[i]? =some (F.rules.getD i eT):=by rw [cQ,cz h1]; rfl
   obtain ⟨c,q,h5,A,E,G⟩:=a.part i _ h4
   have C:=Tk a.uniq c q
   rw [← E,h3] at C
   rw [C]
   simp only
   rw [if_pos (G.symm.trans h2)]
   exact o4.2 ⟨i - c.first,uq.2 ab,ab⟩
theorem Rk (F:aR) (k f:Nat):(gA F k f).Nodup:=by
 unfold gA
 split
 · split
   · rw [List.Nodup,NN]
     exact Z0 (fun h=>by omega) NM
   · exact .nil
 · exact .nil
theorem JW {F:aR} (j:pk F) {k:Nat} :∀ {fs:List Nat},fs.Pairwise (· < ·)→(fs.flatMap<|gA F k).Nodup∧∀ i,i∈fs.flatMap (gA F k)↔i∈aV F fs k:=by
 intro fs h
 refine ⟨?_,fun i=> ?_⟩
 · induction fs with
   | nil=>exact .nil
   | cons f fs I=>
     rw [List.pairwise_cons] at h
     rw [rh,EG]
     refine ⟨Rk F k f,I h.2,fun a A b q C=> ?_⟩
     subst C
     obtain ⟨g,G,q⟩:=zZ.1 q
     have h1:=(yM j).1 A
     have h2:=(yM j).1 q
     have :=h.1 g G
     omega
 · rw [zZ,rQ]
   constructor
   · rintro ⟨f,E,hi⟩
     have h1:=(yM j).1 hi
     exact ⟨h1.1,h1.2.1,h1.2.2 ▸ E⟩
   · rintro ⟨h1,h2,h3⟩
     exact ⟨_,h3,(yM j).2 ⟨h1,h2,aa⟩⟩
theorem Yf {F:aR} (q:pk F) {fs:List Nat} (h:fs.Pairwise (· < ·)) (k:Nat):((fs.flatMap<|gA F k).map fun i:Nat=>(i:Int)).mergeSort (fun x y=>decide (x≤y))=(aV F fs k).map fun i:Nat=>(i:Int):=by
 obtain ⟨h1,h2⟩:=JW q (k:=k) h
 have hn:=JZ F fs k
 have hp:=(List.mergeSort_perm ((fs.flatMap<|gA F k).map fun i:Nat=>(i:Int)) fun x y=>decide (x≤y)).trans<|((List.perm_ext_iff_of_nodup h1<|hn.imp fun h=>by omega).2 h2).map _
 refine List.Perm.eq_of_pairwise (le:=fun x y:Int=>decide (x≤y)=true) ?_ (List.pairwise_mergeSort ?_ ?_ _) ?_ hp
 · intro a b _ _ h j; have :=of_decide_eq_true h; have :=of_decide_eq_true j; omega
 · intro a b c h j; have :=of_decide_eq_true h; have :=of_decide_eq_true j; exact decide_eq_true ab
 · intro a b; simp only [Bool.or_eq_true,decide_eq_true_eq]; omega
 · rw [NN]; exact hn.imp fun h=>decide_eq_true ab
def iW (l:List cx):Nat:=(l.map fun d=>d.kG.length).sum
theorem FE (a b:List cx):iW (a++b)=iW a+iW b:=by unfold iW; rw [ig,List.sum_append]
theorem FF (d:cx):iW [d]=d.kG.length:=by simp [iW]
def kP (most limit:Int) (a:List cx):Bool:=decide (most≤(a.length:Int)∨limit < (iW a:Nat))
def rR (most limit:Int) (a:List cx) (d:cx):List cx:=if kP most limit a=true then a else a++ [d]
def gK (most limit:Int) (a L:List cx):List cx:=L.foldl (rR most limit) a
theorem vp (most limit:Int) (a L M:List cx):gK most limit a (L++M)=gK most limit (gK most limit a L) M:=List.foldl_append
theorem CC (most limit:Int) (a:List cx):gK most limit a []=a:=rfl
theorem yG {most limit:Int} {a:List cx} (h:kP most limit a=true):∀ L,gK most limit a L=a:=by
 intro L
 induction L with
 | nil=>rfl
 | cons d L i=>rw [gK,sv,rR,if_pos h]; exact i
theorem Vk {most limit:Int} (c:Nat) (J:most*c≤limit) (hm:0≤most):∀ (L a:List cx),(∀ d∈L,d.kG.length≤c)→a.length≤most→iW a≤a.length*c→gK most limit a L=a++L.take (most.toNat - a.length):=by
 intro L
 induction L with
 | nil=>intro a _ _ _; simp [CC]
 | cons d L A=>
   intro a i C E
   by_cases h:(a.length:Int)=most
   · rw [yG (decide_eq_true<|.inl ab),show most.toNat - a.length=0 by omega]; simp
   · have G:a.length*c≤(most.toNat)*c:=sA c ab
     have I:((most.toNat*c:Nat):Int)=most*c:=by rw [Int.natCast_mul,Int.toNat_of_nonneg hm]
     have j:kP most limit a=false :=decide_eq_false fun h2=>by rcases h2 with h2 | h2 <;> omega
     rw [gK,sv,rR,if_neg (by rw [j]; exact eb)]
     have :=A (a++ [d]) (fun x q=>i x<|uo _ q) (by rw [bI,eW]; omega) (by
      rw [FE,FF,bI,eW,Nat.add_mul]
      have :=i d (List.mem_cons_self ..); omega)
     rw [gK] at this
     rw [this,bI,eW,show most.toNat - a.length=(most.toNat - (a.length+1))+1 by omega,List.take_succ_cons,dC]; rfl
theorem OD {r:c8} {w v:Tx} (h:dA r w=some v):r.strip.length < w.length∧v=(if r.kind=2 then w.take (w.length - r.strip.length)++r.add else r.add++w.drop r.strip.length):=by
 unfold dA at h
 split at h
 · rename_i a
   unfold iu at a
   rw [gO,decide_eq_true_eq] at a
   cases h
   exact ⟨a.1.2,aa⟩
 · cases h
theorem qm {r:c8} {w v:Tx} (a:r.add.length≤32) (h:dA r w=some v):1≤v.length∧v.length≤w.length+32:=by
 obtain ⟨h1,rfl⟩:=OD h
 split
 · rw [bI,dO]; omega
 · rw [bI,fK]; omega
theorem Dr {F:aR} (a:∀ q∈F.rules,jQ q) (i:Nat):jQ (F.rules.getD i eT):=by
 rw [cQ]
 cases h:F.rules[i]? with
 | none=>exact ⟨jD _,jD _,jD _⟩
 | some q=>exact a q<|iJ h
theorem A8 {F:aR} (a:∀ q∈F.rules,jQ q) {xs:List bD} {e:Nat} {word:Tx} {f s:Int} (h1:1≤word.length):∀ d∈ew F xs e word f s,1≤d.kG.length∧d.kG.length≤word.length+32∧d.s9=e∧d.fst=f∧d.snd=s:=by
 intro d hd
 unfold ew at hd
 rcases jz.1 hd with hd | hd
 · unfold kt at hd
   split at hd
   · obtain rfl :=jY.1 hd
     exact ⟨h1,Nat.le_add_right _ _,aa,aa,aa⟩
   · cases hd
 · obtain ⟨p,_,hp⟩:=List.mem_filterMap.1 hd
   unfold jt at hp
   split at hp
   · obtain ⟨v,i,rfl⟩:=pc.1 hp
     have :=qm (Dr a p).2.1 i
     exact ⟨this.1,this.2,aa,aa,aa⟩
   · cases hp
theorem Ss {F:aR} (a:∀ q∈F.rules,jQ q) {xs:List bD} {e:Nat} (h1:1≤(xs.getD e ([],[])).1.length):∀ d∈lI F xs e,1≤d.kG.length∧d.kG.length≤(xs.getD e ([],[])).1.length +96∧d.s9=e:=by
 intro d hd
 unfold lI at hd
 rcases jz.1 hd with hd | hd
 · have :=A8 a h1 d hd; exact ⟨this.1,ab,this.2.2.1⟩
 · obtain ⟨s,_,hd⟩:=zZ.1 hd
   unfold fT at hd
   split at hd
   · cases hd
   · rename_i w hw
     have i:=qm (Dr a s).2.1 hw
     rcases jz.1 hd with hd | hd
     · have :=A8 a i.1 d hd; exact ⟨this.1,ab,this.2.2.1⟩
     · obtain ⟨z,_,hd⟩:=zZ.1 hd
       unfold je at hd
       split at hd
       · cases hd
       · rename_i v A
         have j:=qm (Dr a z).2.1 A
         have :=A8 a j.1 d hd; exact ⟨this.1,ab,this.2.2.1⟩
end Go.Hb
end
section
namespace Go.Hb
open Go.RowKit
structure Gw (B:Nat) (fp:Nat→Prop) (w:World) (fp':Nat→Prop) (w':World):Prop where
 sub:∀ k,fp' k→fp k∨w.heap.size≤k
 cy:∀ (k:Nat) (cs:Array Value) (e:Nat) (z:Nat×Nat),B≤k→¬fp k→w.heap[k]? =some (.cells cs e z)→w'.heap[k]? =some (.cells cs e z)
 size:w.heap.size≤w'.heap.size
section
variable {B B':Nat} {fp fp' fp'':Nat→Prop} {w w' w'':World}
theorem Gw.trans (h:Gw B fp w fp' w') (a:Gw B fp' w' fp'' w''):Gw B fp w fp'' w'':=
 ⟨fun k hk=>(a.sub k hk).elim (h.sub k) (fun h2=> .inr<|fW h.size h2),
  fun k cs e z i hn hk=>a.cy k cs e z i (fun h2=>(h.sub k h2).elim hn fun h3=>by have :=(dm.1 hk).1; omega) (h.cy k cs e z i hn hk),fW h.size a.size⟩
theorem Gw.mono (h:Gw B fp w fp' w') (a:B≤B'):Gw B' fp w fp' w':=⟨h.sub,fun k cs e z hk=>h.cy k cs e z (fW a hk),h.size⟩
theorem Gw.md {G:Nat→Prop} (hm:Md G w w') (a:∀ k,G k→fp k∨k < B) (hs:∀ k,fp' k→fp k∨w.heap.size≤k):Gw B fp w fp' w':=
 ⟨hs,fun k cs e z i hn hk=>by rw [hm.cy k (dm.1 hk).1 (fun h=>(a k h).elim hn fun h2=>by omega)]; exact hk,hm.size⟩
theorem Gw.wk (hm:Wk w w'):Gw B fp w fp w':=Gw.md hm (fun _ h=>h.elim) fun _ h=> .inl h
theorem Gw.own {e size n:Nat} {v:Value} {xs:List Value} (h:Gw B fp w fp' w') (a:w.ownsRow B e size v n xs) (j:∀ k,v.ownBlock=some k→¬fp k):w'.ownsRow B e size v n xs∧∀ k,v.ownBlock=some k→¬fp' k:=by
 refine ⟨⟨a.1,?_⟩,fun k hk h2=>(h.sub k h2).elim (j k hk) fun h3=>by have :=(dI a hk).2; omega⟩
 rcases a.2 with h1 | ⟨g,cap,cur,q,i,A,h1⟩
 · exact .inl h1
 · exact .inr ⟨g,cap,cur,q,i,h.cy g cur e (0,0) i (j g<|by rw [q]; rfl) A,h1⟩
theorem Gw.aJ {k e:Nat} {cs:Array Value} {z:Nat×Nat} (h:Gw B fp w fp' w') (hk:w.heap[k]? =some (.cells cs e z)) (i:B≤k) (a:¬fp k):w'.heap[k]? =some (.cells cs e z)∧¬fp' k:=
 ⟨h.cy k cs e z i a hk,fun h2=>(h.sub k h2).elim a fun h3=>by have :=(dm.1 hk).1; omega⟩
end
def Ae {α:Type} (B:Nat) (a:List α→(Nat→Prop)→World→Prop):Prop := ∀ pre fp W W' (F:Nat→Prop),a pre fp W→Md F W W'→(∀ k,F k→B≤k∧∀ cur e z,W.heap[k]? =some (.cells cur e z)→¬fp k)→a pre fp W'
section
variable {F fp:Nat→Prop} {W W':World} {B:Nat}
theorem ll {b e:Nat} {cs:Array Value} {z:Nat×Nat} (h:W.heap[b]? =some (.cells cs e z)) (hm:Md F W W') (i:b < B) (a:∀ k,F k→B≤k∧∀ cur e z,W.heap[k]? =some (.cells cur e z)→¬fp k):W'.heap[b]? =some (.cells cs e z):=by
 rw [hm.cy b (dm.1 h).1 (fun hk=>by have :=(a b hk).1; omega)]; exact h
theorem zi {B' e size n:Nat} {v:Value} {xs:List Value} (h:W.ownsRow B' e size v n xs) (hm:Md F W W') (q:∀ k,v.ownBlock=some k→fp k) (a:∀ k,F k→B≤k∧∀ cur e z,W.heap[k]? =some (.cells cur e z)→¬fp k):W'.ownsRow B' e size v n xs:=
 db h hm fun k hk i=>by
  rcases h.2 with ⟨rfl,_⟩ | ⟨g,cap,A,rfl,_,j,_⟩
  · simp [iH] at hk
  · simp only [iH,fL] at hk; subst hk; exact (a _ i).2 _ _ _ j<|q _ rfl
theorem zj {w:World} (h:Wk w W) (hm:Md F W W') (j:w.heap.size≤B) (a:∀ k,F k→B≤k∧∀ cur e z,W.heap[k]? =some (.cells cur e z)→¬fp k):Wk w W':=Md.trans' h hm fun k hk i=>by have :=(a k i).1; omega
end
def Od {α:Type} (B:Nat) (a:Bool→List α→(Nat→Prop)→World→Prop):Prop := ∀ b pre fp W W' (F:Nat→Prop),a b pre fp W→Md F W W'→(∀ k,F k→B≤k∧¬fp k∧∃ cs e z,W.heap[k]? =some (.cells cs e z))→a b pre fp W'
structure Yc {α:Type} (P:Program) (l B:Nat) (encs:α→Array Value) (xs:List α) (Cap:World→Prop) (J:Bool→List α→(Nat→Prop)→World→Prop):Prop where
 cap:∀ b pre fp W,J b pre fp W→Cap W
 lt:∀ b pre fp W,J b pre fp W→∀ k,fp k→k < W.heap.size
 st:Od B J
 yl:∀ pre x rest fp W1,xs=pre++x::rest→J true pre fp W1→YieldAt jg 0 P l (encs x) W1 fun e W'=> ∃ b,e= .returned (.bool b)∧∃ fp',J b (pre++ [x]) fp' W'∧Gw B fp W1 fp' W'
theorem Yc.wk {α:Type} {P:Program} {l B:Nat} {j:α→Array Value} {xs:List α} {i:World→Prop} {a:Bool→List α→(Nat→Prop)→World→Prop} (h:Yc P l B j xs i a) {b:Bool} {pre:List α} {fp:Nat→Prop} {W W':World} (q:a b pre fp W) (hm:Wk W W'):a b pre fp W':=
 h.st _ _ _ _ _ _ q hm fun _ hk=>hk.elim
theorem Gw.JK {B:Nat} {fp fp':Nat→Prop} {w a w':World} (h:Gw B fp w fp' a) {G:Nat→Prop} (hm:Md G a w') (j:∀ k,G k→w.heap.size≤k):Gw B fp w fp' w':=
 ⟨h.sub,fun k cs e z i hn hk=>by
  have h1:=(dm.1 hk).1
  rw [hm.cy k (Nat.lt_of_lt_of_le h1 h.size) (fun h2=>by have :=j k h2; omega)]; exact h.cy k cs e z i hn hk,fW h.size hm.size⟩
theorem Yc.vG {α:Type} {P:Program} {l B:Nat} {A:α→Array Value} {j:List α} {i:World→Prop} {a:Bool→List α→(Nat→Prop)→World→Prop} (h:Yc P l B A j i a) {b:Bool} {pre:List α} {fp:Nat→Prop} {W W':World} (E:a b pre fp W) {k e:Nat} {cs:Array Value} {z:Nat×Nat} (hk:W.heap[k]? =some (.cells cs e z)) (C:B≤k) (G:¬fp k) (hm:Md (fun q=>q=k) W W'):a b pre fp W':=
 h.st _ _ _ _ _ _ E hm fun q I=>by subst I; exact ⟨C,G,_,_,_,hk⟩
theorem Yc.Zr {α:Type} {P:Program} {l B:Nat} {q:α→Array Value} {xs:List α} {a i:World→Prop} {j:Bool→List α→(Nat→Prop)→World→Prop} (h:Yc P l B q xs a j) (C:∀ W,a W→i W):Yc P l B q xs i j:=
 ⟨fun b pre fp W A=>C W (h.cap b pre fp W A),h.lt,h.st,h.yl⟩
def Ab {α:Type} (P:Program) (q:Nat) (A:Array Value) (j:α→Array Value) (xs:List α) (i:World→Prop):Prop :=
 ∀ (l:Nat) (a:Bool→List α→(Nat→Prop)→World→Prop) (W:World),a true [] (fun _=>False) W→Yc P l W.heap.size j xs i a→
   Calls P q (#[.func (.yield l) #[] #[]]++A) W fun e W'=>(∃ v,e= .returned v)∧∃ b pre fp,a b pre fp W'∧pre <+:xs∧(b=true→pre=xs)
def Xx (id B:Nat) (fp:Nat→Prop) (W:World) (R:(Nat→Prop)→World→Prop) (X:Bool→(Nat→Prop)→World→Prop):Exit→(Nat→Value)→World→Prop
 | .normal,_,w=>fM W w∧∃ fp',Gw B fp W fp' w∧R fp' w
 | .exit i,_,w=>i=id∧fM W w∧∃ fp',Gw B fp W fp' w∧X false fp' w
 | .ret,_,w=>fM W w∧∃ fp',Gw B fp W fp' w∧X true fp' w
 | _,_,_=>False
def CB (id:Nat):Bool→Code
 | true => .ret
 | false => .exit id
theorem Fv {α:Type} {f:α→List Value} {e:Nat} (x:α) (b:Nat) (W W':World) (F:Nat→Prop) (h:W.heap[b]? =some (.cells (f x).toArray e (0,0))) (hm:Md F W W') (a:∀ k,F k→∀ cur e z,W.heap[k]?≠some (.cells cur e z)):W'.heap[b]? =some (.cells (f x).toArray e (0,0)):=by
 rw [hm.cy b (dm.1 h).1 (fun hk=>a b hk _ _ _ h)]; exact h
def JX {α:Type} (a:List α→(Nat→Prop)→World→Prop) (X:Bool→List α→(Nat→Prop)→World→Prop) (S:World→Prop) (T:Bool→World→Prop):Bool→List α→(Nat→Prop)→World→Prop
 | true,pre,fp,W=>a pre fp W∧S W
 | false,pre,fp,W=> ∃ r,X r pre fp W∧T r W
theorem KW {α:Type} {P:Program} {id n:Nat} {Y:List Deferred} {g:Operand} {ps:Array Tmp} {ar body:Code} {Z:List Nat} {σ:Nat→Value} {w:World} {B:Exit→Act→World→Prop} {aj:Nat} {ak:Array Value}
 (ag:α→Array Value) (xs:List α) (aw:World→Prop) (q:List α→(Nat→Prop)→World→Prop) (X:Bool→List α→(Nat→Prop)→World→Prop) (aU:ev ⟨n,Y,Z,none⟩ σ g= .func (.func aj) #[] ak) (aR:bg P aj) (a2:∀ x,(ag x).size=ps.size)
 (aV:Ab P aj ak ag xs aw) (aL:q [] (fun _=>False) w) (aA:∀ pre fp W,q pre fp W→aw W∧∀ k,fp k→k < W.heap.size) (aB:∀ r pre fp W,X r pre fp W→aw W∧∀ k,fp k→k < W.heap.size) (ac:Ae w.heap.size q) (an:∀ r,Ae w.heap.size (X r)) (A:α→Nat→World→Prop) (aJ:∀ x b W W' (F:Nat→Prop),A x b W→Md F W W'→(∀ k,F k→∀ cur e z,W.heap[k]?≠some (.cells cur e z))→A x b W') (aG:α→Nat→Nat→Value)
 (aP:∀ (l:Nat) (x:α) (W:World) (K:(Nat→Value)→World→Prop),(∀ b W',Wk W W'→A x b W'→K (aG x b) W')→dW P ⟨n,[],[],some l⟩ ar (mN K fun _ _ _=>False) ((ps.toList.zip (ag x).toList).foldl (fun s p=>dD s p.1 p.2) σ) W)
 (aQ:∀ (l:Nat) (pre:List α) (x:α) (rest:List α) (fp:Nat→Prop) (b:Nat) (W:World),xs=pre++x::rest→q pre fp W→A x b W→dW P ⟨n,[],[],some l⟩ body (Xx id w.heap.size fp W (q<|pre++ [x]) fun r=>X r<|pre++ [x]) (aG x b) W)
 (hd:∀ (D:Nat) (W:World),w.heap.size≤D→(∃ fp,q xs fp W)→W.heap[D]? =some (.deferred<|some [])→qb ⟨n,{target:= .collected D,args:= #[]} ::Y,Z,none⟩ B .normal σ W)
 (a5:∀ (D:Nat) (W:World) (pre:List α),w.heap.size≤D→pre <+:xs→(∃ fp,X false pre fp W)→W.heap[D]? =some (.deferred<|some [])→qb ⟨n,{target:= .collected D,args:= #[]} ::Y,Z,none⟩ B .normal σ W)
 (a6:∀ (D:Nat) (W:World) (pre:List α),w.heap.size≤D→pre <+:xs→(∃ fp,X true pre fp W)→W.heap[D]? =some (.deferred<|some [])→qb ⟨n,{target:= .collected D,args:= #[]} ::Y,Z,none⟩ B .ret σ W):
 oa P ⟨n,Y,Z,none⟩ (.block id<|.rangeFunc g ps ar body) B σ w:=by
 refine wpIn_block<|wpIn_rangeFunc ?_
 intro fn _
 obtain ⟨rc,O⟩:∃ rc:LoopState→Option Code→Loop,rc=fun st a7=> {state:=st,pending:=a7,fn,tmps:=(act ⟨n,Y,Z,none⟩ σ).tmps,params:=ps,assign:=ar,body,defers:=w.heap.size} :=⟨_,rfl⟩
 obtain ⟨G,am⟩:∃ G,(w.alloc<|.deferred<|some []).alloc (.loop<|rc .ready none)=G:=⟨_,rfl⟩
 have aO:G.heap[w.heap.size+1]? =some (.loop<|rc .ready none):=by
  rw [← am]; have :=zR (w.alloc<|.deferred<|some []) (.loop<|rc .ready none); rwa [Nl] at this
 have aN:G.heap[w.heap.size]? =some (.deferred<|some []):=by
  rw [← am]; exact (Below.heap_alloc _ _ _<|by simp).trans<|zR w _
 have a9:G.heap.size=w.heap.size+2:=by rw [← am]; simp
 have hn:∀ (W:World) (o:Obj),Wk W (W.alloc o):=fun W o=>(CW W o).md
 have aM:q [] (fun _=>False) G:=by rw [← am]; exact ac _ _ _ _ _ (ac _ _ _ _ _ aL (hn _ _) fun _ h=>h.elim) (hn _ _) fun _ h=>h.elim
 have aS:(act ⟨n,Y,Z,none⟩ σ).eval g= .func (.func aj) #[] ak:=by rw [gU]; exact aU
 refine ⟨w.heap.size+1,[{target:= .collected w.heap.size,args:= #[]}],G,{target:= .fn (.func aj) ak,args:= #[.func (.yield<|w.heap.size+1) #[] #[]]},G,aj,
  #[.func (.yield<|w.heap.size+1) #[] #[]]++ak,G,?_,?_,fun _ _=>trivial,?_,fun aI=>(by cases aI),?_⟩
 · rw [← am,O]; exact run_enterLoop_outer _ _ _ _ _
 · simp only [resolve,aS]
   simp [go_sem]
 · have :=aR (#[.func (.yield<|w.heap.size+1) #[] #[]]++ak) G
   simp [invoke,go_sem,this]
 ·
  have ai:∀ (q:List α→(Nat→Prop)→World→Prop),Ae w.heap.size q→∀ (pre:List α) (fp:Nat→Prop) (W:World) (o al:Obj),q pre fp W→W.heap[w.heap.size+1]? =some o→(∀ cur e z,o≠.cells cur e z)→q pre fp (W.putObj (w.heap.size+1) al):=fun q ac pre fp W o al h1 h2 h3=>
   ac _ _ _ _ _ h1 (lg W _ al) fun k hk=>⟨ab,fun cur e z h4=>by subst hk; rw [h2] at h4; exact absurd (rj h4)<|h3 _ _ _⟩
  have aC:∀ (fp:Nat→Prop) (W:World) (o al:Obj),W.heap[w.heap.size+1]? =some o→(∀ cur e z,o≠.cells cur e z)→Gw w.heap.size fp W fp (W.putObj (w.heap.size+1) al):=fun fp W o al h2 h3=>
   ⟨fun _ h=> .inl h,fun k cs e z _ _ hk=>by
    rw [oZ (fun h=>by subst h; rw [h2] at hk; exact h3 _ _ _<|rj hk)]; exact hk,by simp [Nk]⟩
  have ay:∀ {F:Nat→Prop} {A C:World},Md F A C→∀ (k:Nat) (o:Obj),A.heap[k]? =some o→¬F k→C.heap[k]? =some o:=fun hm k o ap aT=>by
   rw [hm.cy k (dm.1 ap).1 aT]; exact ap
  refine callsIn_wide.2 (lO (aV (w.heap.size+1)
   (JX q X (fun W=>W.heap[w.heap.size+1]? =some (.loop<|rc .ready none)∧W.heap[w.heap.size]? =some (.deferred<|some [])) fun r W=>W.heap[w.heap.size+1]? =some (.loop<|rc .done<|some<|CB id r)∧W.heap[w.heap.size]? =some (.deferred<|some []))
   G ⟨aM,aO,aN⟩ ⟨fun b pre fp W h=>match b,h with
    | true,h=>(aA pre fp W h.1).1
    | false,⟨r,h,_⟩=>(aB r pre fp W h).1,fun b pre fp W h=>match b,h with
    | true,h=>(aA pre fp W h.1).2
    | false,⟨r,h,_⟩=>(aB r pre fp W h).2,?_,?_⟩) ?_)
  · intro b pre fp A C F h hm ax
    have az:∀ k,F k→w.heap.size≤k∧∀ cur e z,A.heap[k]? =some (.cells cur e z)→¬fp k:=fun k hk=>⟨by have :=(ax k hk).1; omega,fun _ _ _ _=>(ax k hk).2.1⟩
    have J:∀ (k:Nat) (o:Obj),A.heap[k]? =some o→(∀ cur e z,o≠.cells cur e z)→C.heap[k]? =some o:=fun k o ap a0=>ay hm k o ap fun hk=>by
     obtain ⟨cs,e,z,h5⟩:=(ax k hk).2.2; rw [ap] at h5; exact a0 _ _ _<|rj h5
    cases b with
    | true =>exact ⟨ac _ _ _ _ _ h.1 hm az,J _ _ h.2.1 (fun _ _ _ h=>by cases h),J _ _ h.2.2 fun _ _ _ h=>by cases h⟩
    | false =>
      obtain ⟨r,h1,h2,h3⟩:=h
      exact ⟨r,an r _ _ _ _ _ h1 hm az,J _ _ h2 (fun _ _ _ h=>by cases h),J _ _ h3 fun _ _ _ h=>by cases h⟩
  · rintro pre x rest fp W a4 ⟨hi,E,hk⟩
    have aE:=run_yield (P:=P) (args:=ag x) E<|by rw [O]; exact a2 x
    rw [O] at aE
    refine ⟨fn,_,ar,body,aE,roundIn_of_wpIn (F:=jg) trivial ?_⟩
    have a3:((ps.zip<|ag x).foldl (fun tmps (p:Tmp×Value)=>tmps.setIfInBounds p.1 p.2) (act ⟨n,Y,Z,none⟩ σ).tmps)=(act ⟨n,[],[],some<|w.heap.size+1⟩<|(ps.toList.zip (ag x).toList).foldl (fun s p=>dD s p.1 p.2) σ).tmps:=by
     rw [← MH,ML]
     exact EX ⟨n,[],[],some<|w.heap.size+1⟩ _ σ
    have h1:=aP (w.heap.size+1) x W (fun U W'=> ∃ aF,(M2<|w.heap.size+1).run P W'= .ok () aF∧
     body.wpIn (jg.inRound<|w.heap.size+1) 0 P (roundPost P (w.heap.size+1) fun e W'=> ∃ b,e= .returned (.bool b)∧∃ fp',JX q X (fun W=>W.heap[w.heap.size+1]? =some (.loop<|rc .ready none)∧W.heap[w.heap.size]? =some (.deferred<|some [])) (fun r W=>W.heap[w.heap.size+1]? =some (.loop<|rc .done<|some<|CB id r)∧W.heap[w.heap.size]? =some (.deferred<|some [])) b (pre++ [x]) fp' W'∧Gw G.heap.size fp W fp' W') (act ⟨n,[],[],some<|w.heap.size+1⟩ U) aF) ?_
    · unfold dW at h1
      have aH:({tmps:=(ps.zip<|ag x).foldl (fun tmps (p:Tmp×Value)=>tmps.setIfInBounds p.1 p.2) (act ⟨n,Y,Z,none⟩ σ).tmps,defers:= []} :Act)=act ⟨n,[],[],some<|w.heap.size+1⟩ ((ps.toList.zip (ag x).toList).foldl (fun s p=>dD s p.1 p.2) σ):=by rw [a3]; rfl
      rw [aH]
      refine wpIn_mono h1 ?_
      intro e a w' M
      cases e with
      | normal=>obtain ⟨U,rfl,ae⟩:=M; exact ae
      | panic c=>obtain ⟨U,rfl,ae⟩:=M; exact ae U fun _ _=>rfl
      | outgrown=>exact M.elim
      | _=>obtain ⟨U,rfl,ae⟩:=M; exact ae
    intro b V au aK
    have hi:=ac _ _ _ _ _ hi au fun _ h=>h.elim
    have E:=ay au _ _ E fun h=>h
    have hk:=ay au _ _ hk fun h=>h
    have aZ:w.heap.size+1 < V.heap.size:=(dm.1 E).1
    refine ⟨_,run_beginRound E (by rw [O]),?_⟩
    have aY:(V.putObj (w.heap.size+1)<|.loop {rc .ready none with state:= .busy}).heap[w.heap.size+1]? =some (.loop {rc .ready none with state:= .busy}):=zS aZ
    have aW:(V.putObj (w.heap.size+1)<|.loop {rc .ready none with state:= .busy}).heap[w.heap.size]? =some (.deferred<|some []):=(oZ ab).trans hk
    have a1:=aC fp V _ (.loop {rc .ready none with state:= .busy}) E fun _ _ _ h=>by cases h
    have h2:=aQ (w.heap.size+1) pre x rest fp b _ a4 (ai q ac _ _ _ _ (.loop {rc .ready none with state:= .busy}) hi E fun _ _ _ h=>by cases h)<|aJ _ _ _ _ _ aK (lg V (w.heap.size+1) _) fun k hk cur e z h4=>by subst hk; rw [E] at h4; cases h4
    unfold dW at h2
    refine wpIn_mono h2 ?_
    have fin:∀ (j:Option Code) (fp':Nat→Prop) (I:World),fM (V.putObj (w.heap.size+1)<|.loop {rc .ready none with state:= .busy}) I→Gw w.heap.size fp (V.putObj (w.heap.size+1)<|.loop {rc .ready none with state:= .busy}) fp' I→
     (Instr.endRound (w.heap.size+1) j).run P I= .ok (.bool j.isNone) (I.putObj (w.heap.size+1)<|.loop<|rc (if j.isNone then .ready else .done) j)∧
     I.heap[w.heap.size+1]? =some (.loop {rc .ready none with state:= .busy})∧
     (I.putObj (w.heap.size+1)<|.loop<|rc (if j.isNone then .ready else .done) j).heap[w.heap.size+1]? =some (.loop<|rc (if j.isNone then .ready else .done) j)∧
     (I.putObj (w.heap.size+1)<|.loop<|rc (if j.isNone then .ready else .done) j).heap[w.heap.size]? =some (.deferred<|some [])∧
     Gw G.heap.size fp W fp' (I.putObj (w.heap.size+1)<|.loop<|rc (if j.isNone then .ready else .done) j):=fun j fp' I J ah=>by
     have av:=J _ _ aY fun _ _ _ h=>by cases h
     have aX:=J _ _ aW fun _ _ _ h=>by cases h
     have aD:=run_endRound (P:=P) j av
     refine ⟨?_,av,zS (dm.1 av).1,(oZ ab).trans aX,((((Gw.wk au).trans a1).trans ah).trans<|aC fp' _ _ _ av fun _ _ _ h=>by cases h).mono ab⟩
     rw [O] at aD ⊢
     exact aD
    intro e a I M
    cases e with
    | normal=>
      obtain ⟨U,rfl,J,fp',ah,ao⟩:=M
      obtain ⟨f1,f2,f3,f4,f5⟩:=fin none fp' I J ah
      exact ⟨_,_,f1,true,aa,fp',⟨ai q ac _ _ _ _ _ ao f2 (fun _ _ _ h=>by cases h),f3,f4⟩,f5⟩
    | ret=>
      obtain ⟨U,rfl,J,fp',ah,ao⟩:=M
      obtain ⟨f1,f2,f3,f4,f5⟩:=fin (some .ret) fp' I J ah
      exact ⟨_,_,f1,false,aa,fp',⟨true,ai (X true) (an true) _ _ _ _ _ ao f2 (fun _ _ _ h=>by cases h),f3,f4⟩,f5⟩
    | exit i=>
      obtain ⟨U,rfl,rfl,J,fp',ah,ao⟩:=M
      obtain ⟨f1,f2,f3,f4,f5⟩:=fin (some<|.exit i) fp' I J ah
      exact ⟨_,_,f1,false,aa,fp',⟨false,ai (X false) (an false) _ _ _ _ _ ao f2 (fun _ _ _ h=>by cases h),f3,f4⟩,f5⟩
    | panic c=>obtain ⟨U,rfl,ae⟩:=M; exact (ae U fun _ _=>rfl).elim
    | outgrown=>exact M.elim
    | goto t=>obtain ⟨U,rfl,ae⟩:=M; exact ae.elim
  · rintro e a8 ⟨⟨v,rfl⟩,b,pre,fp,hj,hpre,hb1⟩
    cases b with
    | true =>
      obtain ⟨hi,E,hk⟩:=hj
      obtain rfl :=hb1 rfl
      have aq:=run_endLoop (P:=P) E<|by rw [O]; simp
      rw [O] at aq
      refine ⟨none,_,aq,?_⟩
      rw [O] at E
      exact hd w.heap.size _ (cj _) ⟨fp,ai q ac _ _ _ _ _ hi E fun _ _ _ h=>by cases h⟩<|(oZ ab).trans hk
    | false =>
      obtain ⟨r,hi,E,hk⟩:=hj
      have aq:=run_endLoop (P:=P) E<|by rw [O]; simp
      rw [O] at aq
      refine ⟨some (CB id r),_,aq,?_⟩
      rw [O] at E
      cases r with
      | true =>
        refine wpIn_ret ?_
        exact a6 w.heap.size _ pre (cj _) hpre ⟨fp,ai (X true) (an true) _ _ _ _ _ hi E fun _ _ _ h=>by cases h⟩<|(oZ ab).trans hk
      | false =>
        refine wpIn_exit ?_
        unfold Exit.inBlock
        simp only [if_true]
        exact a5 w.heap.size _ pre (cj _) hpre ⟨fp,ai (X false) (an false) _ _ _ _ _ hi E fun _ _ _ h=>by cases h⟩<|(oZ ab).trans hk
section
variable {P:Program} {N:Fm} {ops:Array Oper} {Q:Exit→(Nat→Value)→World→Prop} {rest:List Oper} {σ:Nat→Value} {w:World} {d':Option Nat} {d:Nat} {op:Op} {ty:TypeId} {pos :String} {af:Array Edge} {v:Value}
end
section
variable {P:Program} {n:Nat} {F:List Nat} {σ:Nat→Value} {w:World} {fn:Func} {R:Value→World→Prop}
end
def BI (P:Program) (s f:Nat):Option Nat:=
 match P.underlying s with
 | some (.struct fs)=>match fs[f]? with
   | some fd=>if dy P fd.type=some none then some fd.offset else none
   | none=>none
 | _=>none
theorem XQ {P:Program} {t:Nat} (hu:dy P t=some none) (w:World):(isAgg t).run P w= .ok false w:=by
 unfold dy at hu
 cases hd:P.underlying t with
 | none=>rw [hd] at hu; cases hu
 | some d=>
   rw [hd] at hu
   cases d <;> first
    | (simp only [pc] at hu; obtain ⟨_,_,h⟩:=hu; cases h; done)
    | simp [isAgg,eu hd]
theorem Ta {P:Program} {N:Fm} {σ:Nat→Value} {w:World} {dst:Option Nat} {ty:TypeId} {pos :String} {af:Array Edge} {g:Option (Nat×Bool)} {x:Operand} {s f n:Nat} {cs:Array Value} {v:Value} (a:BI P s f=some n) (A:ev N σ x= .agg cs) (q:cs[n]? =some v):
 (execOp (ev N σ) ⟨dst,.field s x f,ty,pos,af,g⟩).run P w= .ok (.value v) w:=by
 unfold BI at a
 split at a
 · rename_i fs hu
   split at a
   · rename_i fd j
     split at a
     · rename_i i
       cases a
       simp [execOp,M3,eu hu,j,A,asAgg,part,XQ i,q]
     · cases a
   · cases a
 · cases a
section
variable {P:Program} {ops:Array Oper} {Q:Exit→Act→World→Prop} {S:World→Prop} {md:sn}
theorem Mx {i:Nat} {o:Oper} {v:Value} {a:Act} (hi:ops[i]? =some o) (A:YieldsIf P ops S o v a) {K:Act→World→Prop} {w:World} (j:S w) (h:K (a.put o.dst v) w):wpOpIn jg 0 P ops Q i K a w:=by
 unfold wpOpIn
 simp only [hi]
 rcases A with ⟨hw,q⟩ | ⟨hw,rfl⟩
 · rw [if_pos hw]
   refine ⟨fun _ _=>trivial,?_⟩
   rw [show jg.round=none from rfl,wx,q w j]
   exact h
 · rw [if_neg (by rw [hw]; exact eb)]; exact ⟨fun _ _=>trivial,h⟩
theorem ZH {j:Nat} {i A:Oper} {v:Value} (I:ops[j]? =some A) (G:i.apart ops A=true)
 (J:∀ cs b,i.op≠.select cs b) (M:∀ cs b,A.op≠.select cs b)
 (C:∀ c a w,Q (.panic c) (a.put i.dst v) w→Q (.panic c) a w) {K:Act→World→Prop} {a:Act} {w:World}
 (q:YieldsIf P ops S i v a) (h:wpOpIn jg 0 P ops Q j K (a.put i.dst v) w):
 wpOpIn jg 0 P ops Q j (fun E w'=>YieldsIf P ops S i v E∧K (E.put i.dst v) w') a w:=by
 obtain ⟨h1,h2,h3⟩:=Oper.apart_spec G
 have cy:∀ (a:Act),YieldsIf P ops S i v a→∀ u,YieldsIf P ops S i v (a.put A.dst u):=fun a q u=>
  q.of_same (execOp_put i J a A.dst u h3) (wanted_put i a A.dst u h3)
 have O:∀ d,YieldsIf P ops S i v {a with defers:=d::a.defers} :=fun d=>q.of_same rfl rfl
 unfold wpOpIn at*
 simp only [I] at*
 rw [wanted_put A a i.dst v h1] at h
 split
 · rename_i hw
   simp only [hw,if_true] at h
   unfold Oper.wpIn at*
   refine ⟨fun _ _=>trivial,?_⟩
   have h:=h.2
   rw [show jg.round=none from rfl,wx,execOp_put A M a i.dst v h1] at h
   rw [show jg.round=none from rfl,wx]
   generalize (execOp a.eval A).run P w=r at*
   cases r with
   | ok x w'=>
     cases x <;> simp only [q4] at h ⊢
     case value u=>exact ⟨cy a q u,by rw [← sh a v u h2]; exact h⟩
     case skip =>exact ⟨cy a q _,by rw [← sh a v undef h2]; exact h⟩
     case defer d=>
      refine ⟨cy _ (O d) _,?_⟩
      rw [← sh _ v undef h2,← Act.put_defers]
      exact h
     case enter f args=>
      refine ⟨h.1,Ec h.2 fun e w'' he=> ?_⟩
      cases e with
      | returned u=>exact ⟨cy a q u,by rw [← sh a v u h2]; exact he⟩
      | panicked c=>exact C _ _ _ he
      | outgrown=>exact he
     case row row args=>exact ⟨h.1,Es h.2 fun u w'' he=>⟨cy a q u,by rw [← sh a v u h2]; exact he⟩⟩
     case round l f tmps assign body=>
      refine ⟨h.1,Ep h.2 fun e w'' he=> ?_⟩
      cases e with
      | returned u=>exact ⟨cy a q u,by rw [← sh a v u h2]; exact he⟩
      | panicked c=>exact C _ _ _ he
      | outgrown=>exact he
   | halt x w'=>
     cases x <;> simp only [q4] at h ⊢
     case panic u=>exact C _ _ _ h
 · rename_i hw
   simp only [hw] at h
   exact ⟨fun _ _=>trivial,cy a q _,by rw [← sh a v undef h2]; exact h.2⟩
def p4 (P:Program) (md:sn) (ops:Array Oper) (Q:Exit→Act→World→Prop) (S:World→Prop):Nat→Array Bool→Act→World→Prop
 | 0,a8,a,w=>jo md ops a8= []∧Q .normal a w
 | fuel+1,a8,a,w=>
   (jo md ops a8= []→Q .normal a w)∧
   ∀ i∈jo md ops a8,wpOpIn jg 0 P ops Q i (fun j w'=>S w'∧p4 P md ops Q S fuel (a8.setIfInBounds i true) j w') a w
theorem Mq:∀ (fuel:Nat) (a8:Array Bool) (a:Act) (w:World),p4 P md ops Q S fuel a8 a w→wpAnyIn jg 0 P md ops Q fuel a8 a w
 | 0,_,_,_,h=>h
 | fuel+1,_,_,_,h=>⟨h.1,fun i hi=>wpOpIn_mono (fun j w' q=>Mq fuel _ j w' q.2)<|h.2 i hi⟩
theorem ZB {i:Nat} {C:Oper} {v:Value} (hi:ops[i]? =some C) (aa:∀ (j:Nat) (o:Oper) cs b,ops[j]? =some o→o.op≠.select cs b)
 (ae:∀ c a w,Q (.panic c) (a.put C.dst v) w→Q (.panic c) a w):
 ∀ (fuel:Nat) (a8:Array Bool) (a:Act) (w:World),
   (∀ j E,ops[j]? =some E→j≠i→a8.getD j true =false→(∀ e∈E.after,jX md e=true→e.on≠i)→C.apart ops E=true)→
   i∈jo md ops a8→YieldsIf P ops S C v a→S w→
   p4 P md ops Q S fuel (a8.setIfInBounds i true) (a.put C.dst v) w→p4 P md ops Q S (fuel+1) a8 a w:=by
 intro fuel
 induction fuel with
 | zero=>
   intro a8 a w _ A J G H
   refine ⟨fun h=>(by rw [h] at A; cases A),fun j I=> ?_⟩
   by_cases q:j=i
   · subst q; exact Mx hi J G ⟨G,H⟩
   · have :=ready_mono I q
     rw [H.1] at this
     cases this
 | succ fuel am=>
   intro a8 a w V A J G H
   refine ⟨fun h=>(by rw [h] at A; cases A),fun j I=> ?_⟩
   by_cases q:j=i
   · subst q; exact Mx hi J G ⟨G,H⟩
   · have h1:=H.2 j<|ready_mono I q
     obtain ⟨Z,E,O,ag⟩:=mem_ready.1 I
     have al:∀ e∈E.after,jX md e=true→e.on≠i:=fun e he ah heq=>by
      have h1:=ag e he ah
      have U:=(mem_ready.1 A).1
      rw [heq] at h1
      rcases Nat.lt_or_ge i a8.size with M | M
      · simp [M] at U h1; rw [U] at h1; cases h1
      · simp [Array.getElem?_eq_none M] at h1
     have h2:=ZH O (V j E O q Z al) (fun cs b=>aa i C cs b hi) (fun cs b=>aa j E cs b O) ae J h1
     have ai:∀ k ok,ops[k]? =some ok→k≠i→(a8.setIfInBounds j true).getD k true =false→
      (∀ e∈ok.after,jX md e=true→e.on≠i)→C.apart ops ok=true :=fun k ok hk aj ab ak=>by
      refine V k ok hk aj ?_ ak
      by_cases Y:j=k
      · subst Y; exact Z
      · rw [getD_set_ne true Y] at ab; exact ab
     refine wpOpIn_mono (fun ac w' h3=>⟨h3.2.1,am (a8.setIfInBounds j true) ac w' ai (ready_mono A<|Ne.symm q) h3.1 h3.2.1 ?_⟩) h2
     rw [Array.setIfInBounds_comm _ _ q]
     exact h3.2.2
theorem DV {i:Nat} {j:Oper} {v:Value} {fuel:Nat} {a8:Array Bool} {a:Act} {w:World} (hi:ops[i]? =some j)
 (hs:Region.noSelect ops=true) (C:Region.free md ops a8 i=true) (E:(jo md ops a8).contains i=true)
 (q:∀ c a w,Q (.panic c) (a.put j.dst v) w→Q (.panic c) a w) (G:YieldsIf P ops S j v a) (A:S w)
 (h:p4 P md ops Q S fuel (a8.setIfInBounds i true) (a.put j.dst v) w):p4 P md ops Q S (fuel+1) a8 a w:=
 ZB hi (Region.noSelect_spec hs) q fuel a8 a w (Region.free_spec hi C) (by simpa using E) G A h
theorem Mr {i:Nat} {fuel:Nat} {a8:Array Bool} {a:Act} {w:World} (G:lh ops a8 i=true)
 (h:wpOpIn jg 0 P ops Q i (fun E w'=>S w'∧p4 P .any ops Q S fuel (a8.setIfInBounds i true) E w') a w):p4 P .any ops Q S (fuel+1) a8 a w:=by
 have C:jo .any ops a8= [i]:=by simpa [lh] using G
 exact ⟨fun q=>(by rw [C] at q; cases q),fun j A=>by rw [C] at A; obtain rfl :=jY.1 A; exact h⟩
end
def lu (P:Program) (N:Fm) (ops:Array Oper) (Q:Exit→(Nat→Value)→World→Prop) (S:World→Prop) (fuel:Nat) (a8:Array Bool) (σ:Nat→Value) (w:World):Prop :=
 p4 P .any ops (lift N Q) S fuel a8 (act N σ) w
section
variable {P:Program} {N:Fm} {ops:Array Oper} {Q:Exit→(Nat→Value)→World→Prop} {σ:Nat→Value} {w:World} {d':Option Nat} {d:Nat} {op:Op} {ty:TypeId} {pos :String} {af:Array Edge} {v:Value}
variable {S:World→Prop} {fuel:Nat} {a8:Array Bool}
theorem My {id:Nat} {l:List Oper} (S:World→Prop) (a:N.r=none) (hm:P.follows .mixedOrders=true) (i:S w.drew) (h:lu P N l.toArray Q S l.length (tY l.length false) σ w.drew):dW P N (.region id l.toArray true) Q σ w:=by
 unfold dW
 rw [a]
 exact wpIn_region_any hm<|Mq _ _ _ _<|by rw [oo]; exact h
theorem yp (i:Nat) (hi:ops[i]? =some ⟨some d,op,ty,pos,af,none⟩) (j:ju N.F ops a8 i=true)
 (A:∀ w,S w→(execOp (ev N σ) ⟨some d,op,ty,pos,af,none⟩).run P w= .ok (.value v) w) (q:S w)
 (k:lu P N ops Q S fuel (a8.setIfInBounds i true) (dD σ d v) w):lu P N ops Q S (fuel+1) a8 σ w:=by
 simp only [ju,gO] at j
 refine DV hi j.1.1.1 j.1.1.2 j.1.2 (fun c a w=>oJ (by have :=j.2; rwa [hi] at this) c a w) (.inl ⟨jO _ rfl _,fun w q=> ?_⟩) q ?_ (v:=v)
 · rw [gU]; exact A w q
 · rw [jH]; exact k
theorem nu (i:Nat) {j t:Nat} {want:Bool} (hi:ops[i]? =some ⟨some d,op,ty,pos,af,some (j,want)⟩) (q:ju N.F ops a8 i=true)
 (C:lK ops j=some t) (E:iR t N.n=true) (G:σ t= .bool want)
 (I:∀ w,S w→(execOp (ev N σ) ⟨some d,op,ty,pos,af,some (j,want)⟩).run P w= .ok (.value v) w) (A:S w)
 (k:lu P N ops Q S fuel (a8.setIfInBounds i true) (dD σ d v) w):lu P N ops Q S (fuel+1) a8 σ w:=by
 simp only [ju,gO] at q
 refine DV hi q.1.1.1 q.1.1.2 q.1.2 (fun c a w=>oJ (by have :=q.2; rwa [hi] at this) c a w) (.inl ⟨by rw [pY aa C E G]; cases want <;> rfl,fun w A=> ?_⟩) A ?_ (v:=v)
 · rw [gU]; exact I w A
 · rw [jH]; exact k
theorem ma (i:Nat) {j t:Nat} {want b:Bool} (hi:ops[i]? =some ⟨some d,op,ty,pos,af,some (j,want)⟩) (q:ju N.F ops a8 i=true)
 (E:lK ops j=some t) (G:iR t N.n=true) (I:σ t= .bool b) (C:(b==want)=false) (A:S w)
 (k:lu P N ops Q S fuel (a8.setIfInBounds i true) (dD σ d undef) w):lu P N ops Q S (fuel+1) a8 σ w:=by
 simp only [ju,gO] at q
 refine DV hi q.1.1.1 q.1.1.2 q.1.2 (fun c a w=>oJ (by have :=q.2; rwa [hi] at this) c a w) (.inr ⟨by rw [pY aa E G I,C],aa⟩) A ?_ (v:=undef)
 rw [jH]; exact k
theorem ZE {Q:Exit→Act→World→Prop} {o:Oper} {K:(Nat→Value)→World→Prop} {q:Act→World→Prop} (h:dM P N o σ w K) (hk:∀ σ w,K σ w→q (act N σ) w):o.wpIn jg 0 P (act N σ) w q Q:=by
 refine ⟨fun _ _=>trivial,?_⟩
 rw [show jg.round=none from rfl,wx]
 unfold dM jW at h
 generalize (execOp (act N σ).eval o).run P w=x at h ⊢
 cases x with
 | ok n w'=>
   cases n <;> simp only [kW,q4] at h ⊢ <;>
    first
     | (obtain ⟨A,i,a⟩:=h; rw [i]; exact hk _ _ a)
     | (refine ⟨fun j=>(by cases j),Ec (callsIn_wide.2 h) fun e w'' he=> ?_⟩
        cases e with
        | returned v=>obtain ⟨A,i,a⟩:=he; simp only; rw [i]; exact hk _ _ a
        | panicked c=>exact he.elim
        | outgrown=>obtain ⟨_,_,C⟩:=he; exact C.elim)
     | (refine ⟨fun j=>(by cases j),Es (BH (r:=none) h) fun v w'' he=> ?_⟩
        obtain ⟨A,i,a⟩:=he; rw [i]; exact hk _ _ a)
 | halt x w'=>cases x <;> simp only [kW] at h
theorem ye (i:Nat) (hi:ops[i]? =some ⟨d',op,ty,pos,af,none⟩) (a:lh ops a8 i=true)
 (h:dM P N ⟨d',op,ty,pos,af,none⟩ σ w (fun σ w=>S w∧lu P N ops Q S fuel (a8.setIfInBounds i true) σ w)):lu P N ops Q S (fuel+1) a8 σ w:=by
 refine Mr a ?_
 unfold wpOpIn
 simp only [hi]
 rw [if_pos (jO _ rfl _)]
 exact ZE h fun _ _ hk=>hk
theorem Mz {l:Nat} {fo:Operand} {args:Array Operand} {q:Array TypeId} {R:Bool→World→Prop} (i:Nat) {j t:Nat} {want:Bool} {L:List Value} (hi:ops[i]? =some ⟨some d,.call ⟨.value fo,args,q⟩,ty,pos,af,some (j,want)⟩) (J:lh ops a8 i=true)
 (I:lK ops j=some t) (O:iR t N.n=true) (U:σ t= .bool want) (G:ev N σ fo= .func (.yield l) #[] #[]) (C:args.toList.map (ev N σ)=L)
 (Y:YieldAt jg 0 P l L.toArray w fun e W'=> ∃ b,e= .returned (.bool b)∧R b W') (k:∀ b W',R b W'→S W'∧lu P N ops Q S fuel (a8.setIfInBounds i true) (dD σ d<|.bool b) W'):
 lu P N ops Q S (fuel+1) a8 σ w:=by
 refine Mr J ?_
 unfold wpOpIn
 simp only [hi]
 rw [if_pos (by rw [pY rfl I O U]; cases want <;> rfl)]
 obtain ⟨fn,tmps,a,b,M,E⟩:=Y
 refine ⟨fun _ _=>trivial,?_⟩
 rw [show jg.round=none from rfl,wx,gU]
 have hm:args.map (ev N σ)=L.toArray:=by rw [← C,← nv]
 have V:(execOp (ev N σ) ⟨some d,.call ⟨.value fo,args,q⟩,ty,pos,af,some (j,want)⟩).run P w= .ok (.round l fn tmps a b) w:=by
  simp [execOp,resolve,G,qY,invoke,hm,M]
 rw [V]
 simp only [q4]
 refine ⟨fun A=>(by cases A),Ep E ?_⟩
 rintro e W' ⟨c,rfl,hw⟩
 simp only
 rw [jH]
 exact k c W' hw
theorem yn (j:(jo .any ops a8).isEmpty=true) (h:Q .normal σ w):lu P N ops Q S fuel a8 σ w:=by
 have a:jo .any ops a8= []:=by simpa using j
 cases fuel with
 | zero=>exact ⟨a,σ,rfl,h⟩
 | succ n=>exact ⟨fun _=>⟨σ,rfl,h⟩,fun i hi=>by rw [a] at hi; cases hi⟩
theorem Mv {t:Nat} {b:Bool} (h:σ t= .bool b) (i:b=true→lu P N ops Q S fuel a8 (dD σ t<|.bool true) w) (a:b=false→lu P N ops Q S fuel a8 (dD σ t<|.bool false) w):lu P N ops Q S fuel a8 σ w:=by
 cases b
 · have :=a rfl; rwa [n9 h] at this
 · have :=i rfl; rwa [n9 h] at this
end
attribute [irreducible] lu
end Go.Hb
end
section
namespace Go.Hb
theorem Kl {b:UInt8} {m:Int} (h:48≤b.toNat∧b.toNat≤57) (hm:((b.toNat - 48:Nat):Int)≤m):eS [b] m= .ok (b.toNat - 48):=by
 have a:eJ [b]=b.toNat - 48:=by simp [eJ]
 have j:¬qH [b]:=by rintro (h | ⟨h,_⟩) <;> simp at h
 have hd:Bu [b]:=fun i hi=>by
  have hi:i=0:=by simpa using hi
  subst hi
  exact decide_eq_true h
 unfold eS
 rw [CS j hd (by rw [a]; omega),a]
 rfl
theorem DU:eD 1 [65]=65:=by unfold eD; decide+kernel
theorem Zu:gD gV [65]= .ok 65:=by
 unfold gD gI gV
 simp only
 rw [DU]
 simp [eB,dU]
theorem Zv:kO 1 [65]= .ok [65]:=by
 have h1:dE 1 [65]= [[65]]:=by decide+kernel
 have h:dX 1 [65]=([65],0):=by
  unfold dX
  rw [h1,if_neg (by simp),if_neg (by simp [DU]),if_neg (by simp),um,List.map_nil,DU]
  decide+kernel
 unfold kO
 rw [h]; rfl
end Go.Hb
end
section
namespace Go.Hb
def tQ:Tx:= [83,70,88,32,65,32,89,32,50,10,83,70,88,32,65,32,48,32,115,10,83,70,88,32,65,32,48,32,101,114,10]
def zy:Tx:= [49,10,100,111,47,65,10]
def jV:aR:=⟨1,[],[],[0,0,0,0,0],3,[],[],[⟨65,2,true,0,2⟩],[⟨2,65,true,[],[115],[46],[],2⟩,⟨2,65,true,[],[101,114],[46],[],3⟩]⟩
def nr:List bD:= [([100,111],[65])]
theorem Zm:bN tQ= [(1,[[83,70,88],[65],[89],[50]]),(2,[[83,70,88],[65],[48],[115]]),(3,[[83,70,88],[65],[48],[101,114]])]:=by decide+kernel
theorem Zn:bN zy= [(1,[[49]]),(2,[[100,111,47,65]])]:=by decide+kernel
theorem Mk {s:Tx} {ln:Nat} (hw:bu s=(s,[],false,0)) (a:s≠[48]) (i:gB s=0):fA 1 [] ⟨65,2,true,0,2⟩ ln [[83,70,88],[65],[48],s]= .ok ⟨2,65,true,[],s,[46],[],ln⟩:=by
 unfold fA
 rw [if_neg (by simp)]
 simp only [lP,NA]
 rw [show et true [48]= .ok [] from if_pos ⟨rfl,rfl⟩,hw]
 simp only
 rw [show jJ (s,[],false,0)= .ok s from by unfold jJ; rw [if_neg (by simp),if_neg a,if_neg (by simp [i])]]
 rfl
theorem Zi:ff tQ= .ok jV:=by
 unfold ff
 rw [if_neg az,Zm]
 simp only [cM,fP]
 have j:bY ((bG tQ).length+1) gV [] [(2,[[83,70,88],[65],[48],[115]]),(3,[[83,70,88],[65],[48],[101,114]])] 1 [[83,70,88],[65],[89],[50]]= .ok (jV,[]):=by
  unfold bY
  simp only [lP]
  rw [if_neg az,if_neg az,if_neg az,if_neg az,if_neg az,if_neg az,if_neg az]
  unfold gH
  simp only [lP,NA]
  rw [Zu]
  simp only
  rw [if_neg (by simp),Kl (b:=50) az az]
  simp only
  rw [if_neg az]
  have i:∀ b,b=true→group [[83,70,88],[65]] (fA gV.kind gV.aliases ⟨65,if ([83,70,88]:Tx)=di then 2 else 1,b,gV.rules.length,N2 50 - 48⟩) ((bG tQ).length+1) (N2 50 - 48) [(2,[[83,70,88],[65],[48],[115]]),(3,[[83,70,88],[65],[48],[101,114]])]= .ok (jV.rules,[]):=by
   intro b a
   subst a
   show group [[83,70,88],[65]] (fA 1 [] ⟨65,2,true,0,2⟩) _ 2 _=_
   rw [group,if_neg az,Mk (by decide+kernel) az az]
   simp only
   rw [group,if_neg az,Mk (by decide+kernel) az az]
   rfl
  rw [i _ (by simp)]
  simp only [decide_true]
  rfl
 rw [gF]
 simp only [lP]
 rw [if_neg az,if_neg az,if_neg az,j]
 simp only
 rw [gF]
 rfl
theorem Zk:e6 jV zy= .ok nr:=by
 have a:fS jV [[100,111,47,65]]= .ok ([100,111],[65]):=by
  have hw:bu [100,111,47,65]=([100,111],[65],true,0):=by decide+kernel
  refine (Bz (row:= [[100,111,47,65]]) (set := [65]) aa ?_ ?_ ?_ ?_ ?_ ?_ ?_).trans ?_
  all_goals try simp only [lP,hw]
  · decide
  · decide
  · simp
  · show fN 1 [] [65]=_
    unfold fN; rw [if_pos rfl]; exact Zv
  · intro i hi
    have :i=0:=by simpa using hi
    subst this; decide
 have hn:eS [49] 8192= .ok 1:=Kl az az
 rw [Hm az Zn rfl (show eS ([[49]].getD 0 []) 8192= .ok 1 from hn),eY,a]
 simp only
 rw [eY]
 rfl
def wa:List cx:= [⟨[100,111],0,-1,-1,-1⟩,⟨[100,111,115],0,0,-1,-1⟩,⟨[100,111,101,114],0,1,-1,-1⟩]
theorem Mj (ad:Tx) (ln:Nat):dA ⟨2,65,true,[],ad,[46],[],ln⟩ [100,111]=some ([100,111]++ad):=by
 have a:da [46]=([],0):=by unfold da; rw [if_neg (by simp),if_pos rfl]
 unfold dA iu
 simp only [a]
 rw [if_pos (by simp only [if_true,fP]; rfl)]
 rfl
theorem Zj:lI jV nr 0=wa:=by
 have h1:aV jV (flagsOf nr (0:Nat)) 1= []:=az
 have h2:aV jV (flagsOf nr (0:Nat)) 2= [0,1]:=az
 have h3:aV jV (cR jV (0:Nat)) 2= []:=az
 have h4:aV jV (cR jV (1:Nat)) 2= []:=az
 have a:∀ w f s,ew jV nr 0 w f s=kt jV nr 0 w f s:=fun w f s=>by unfold ew; rw [h1]; simp
 unfold lI
 rw [h2,a]
 simp only [rh,Nz,ed]
 unfold fT
 rw [show dA (jV.rules.getD 0 eT) (nr.getD 0 ([],[])).1=some [100,111,115] from Mj [115] 2,show dA (jV.rules.getD 1 eT) (nr.getD 0 ([],[])).1=some [100,111,101,114] from Mj [101,114] 3]
 simp only [h3,h4,Nz,ed,a]
 unfold kt
 rw [if_pos az,if_pos az,if_pos az]
 rfl
end Go.Hb
end
section
set_option maxRecDepth 20000
set_option maxHeartbeats 1000000
namespace Go.Hb.fq
open Go.Proofs
def kU (l:List (Tx×Tx)):List Value:=l.flatMap fun p=> [str p.1,str p.2]
def nK (c:c7):List Value:= [bc c.flag,.int .i64 (c.kind:Nat),.bool c.ei,.int .i64 (c.first:Nat),.int .i64 (c.count:Nat)]
def m7 (l:List c7):List Value:=l.flatMap nK
def fk (q:c8×Value):List Value:= [.int .i64 (q.1.kind:Nat),bc q.1.flag,.bool q.1.ei,str q.1.strip,str q.1.add,str q.1.cond,q.2]
def iQ (l:List (c8×Value)):List Value:=l.flatMap fk
structure dp where
 rb:Nat
 fb:Nat
 ms:Nat
 mt:Nat
 mc:Nat
 eof:Nat
structure eX where
 v9:Value
 v10:Value
 v11:Value
 v12:Value
 sa:List Value
 rn:List Value
structure gR where
 vr:Value
 vs:List (Nat×Value)
 vn:Value
def oG (F:aR) (V:eX) (mc:Nat):List Value:= [.int .i64 (F.kind:Nat),str F.rE,str F.tr,bc (F.sp.getD 0 0),bc (F.sp.getD 1 0),bc (F.sp.getD 2 0),bc (F.sp.getD 3 0),bc (F.sp.getD 4 0),.int .i64 (F.least:Nat),V.v9,V.v10,V.v11,V.v12,.map (some mc)]
def vI (H:dp) (R:gR) (ln:Nat):List Value:= [.pointer (some ⟨H.fb,0,none⟩),R.vr,.int .i64 (ln:Nat),.int .i64 (H.eof:Nat),.map (some H.ms),.map (some H.mt),R.vn]
structure dP (w:World) (B fb mc:Nat) (F:aR) (V:eX):Prop where
 cells:w.heap[fb]? =some (.cells (oG F V mc).toArray 125 (0,0))
 o9:bo w B 128 2 V.v9 F.dd.length (kU F.dd)
 eO:bo w B 70 1 V.v10 F.aliases.length V.sa
 al:ek w B 51 V.sa F.aliases
 ej:bo w B 131 5 V.v11 F.bp.length (m7 F.bp)
 dB:bo w B 77 7 V.v12 F.rules.length (iQ<|F.rules.zip V.rn)
 nx:ek w B 51 V.rn (F.rules.map (·.next))
 cm:∃ f,dq w.heap mc (pO .u16) f∧∀ x:Nat,f (bc x)=(F.bp.findIdx? fun c=>decide (c.flag=x)).map fun i:Nat=>Value.int .i64 i
 lo:B≤fb∧B≤mc
 fI:F.sp.length=5
theorem dP.md {G:Nat→Prop} {w w':World} {B fb mc:Nat} {F:aR} {V:eX} (h:dP w B fb mc F V) (hm:Md G w w') {L:List Nat} (a:TF w L G) (i:(L.contains 127 || L.contains 130 || L.contains 72 || L.contains 53 || L.contains 133 || L.contains 79)=false) (E:¬G mc):dP w' B fb mc F V:=by
 simp only [nw] at i
 obtain ⟨⟨⟨⟨⟨h1,h2⟩,h3⟩,h4⟩,h5⟩,h6⟩:=i
 have j:∀ k,G k→∀ cur z,w.heap[k]?≠some (.cells cur 51 z):=fun k hk cur z C=>a.no (dt C) h4 hk
 obtain ⟨f,q,A⟩:=h.cm
 exact ⟨hm.gy a h.cells h1,bZ h.o9 hm a h2,bZ h.eO hm a h3,h.al.md hm j,bZ h.ej hm a h5,bZ h.dB hm a h6,h.nx.md hm j,⟨f,q.md hm E,A⟩,h.lo,h.fI⟩
theorem dP.wk {w w':World} {B fb mc:Nat} {F:aR} {V:eX} (h:dP w B fb mc F V) (hm:Wk w w'):dP w' B fb mc F V:=h.md (L:= []) hm (fun _ hk=>hk.elim) rfl id
structure dx (w:World) (B:Nat) (H:dp) (F:aR) (R:gR) (rows:List Rw) (ln:Nat) (seen:List Tx):Prop where
 cells:w.heap[H.rb]? =some (.cells (vI H R ln).toArray 195 (0,0))
 rws:mq w B 209 rows.length R.vr (kF R.vs)
 rt:gT w B 9 R.vs rows
 sm:∃ f,dq w.heap H.ms jl f∧∀ s:Tx,(f<|str s).getD (.int .i64 0)= .int .i64 (seen.count s:Nat)
 tm:∃ f,dq w.heap H.mt (pO .u16) f∧∀ x:Nat,x≠0→(f<|bc x).getD (.int .i64 0)= .int .i64 ((if eB F x=true then 1 else 0:Nat):Nat)
 on :bo w B 3 1 R.vn F.rules.length (F.rules.map fun r=>Value.int .i64 (r.line:Nat))
 lo:B≤H.rb∧B≤H.ms∧B≤H.mt
 ne:H.ms≠H.mt∧H.ms≠H.mc∧H.mt≠H.mc
theorem dx.md {G:Nat→Prop} {w w':World} {B:Nat} {H:dp} {F:aR} {R:gR} {rows:List Rw} {ln:Nat} {seen:List Tx} (h:dx w B H F R rows ln seen) (hm:Md G w w') {L:List Nat} (a:TF w L G) (j:(L.contains 197 || L.contains 211 || L.contains 11 || L.contains 5)=false) (I:¬G H.ms) (J:¬G H.mt):dx w' B H F R rows ln seen:=by
 simp only [nw] at j
 obtain ⟨⟨⟨h1,h2⟩,h3⟩,h4⟩:=j
 obtain ⟨f,q,A⟩:=h.sm
 obtain ⟨g,C,E⟩:=h.tm
 exact ⟨hm.gy a h.cells h1,h.rws.md hm (fun k hk cur z i=>a.no (dt i) h2 hk),h.rt.md hm (fun k hk cur z i=>a.no (dt i) h3 hk),⟨f,q.md hm I,A⟩,⟨g,C.md hm J,E⟩,bZ h.on hm a h4,h.lo,h.ne⟩
theorem dx.wk {w w':World} {B:Nat} {H:dp} {F:aR} {R:gR} {rows:List Rw} {ln:Nat} {seen:List Tx} (h:dx w B H F R rows ln seen) (hm:Wk w w'):dx w' B H F R rows ln seen:=h.md (L:= []) hm (fun _ hk=>hk.elim) rfl id id
theorem dx.dj {w:World} {B:Nat} {H:dp} {F:aR} {R:gR} {rows:List Rw} {ln:Nat} {seen:List Tx} (h:dx w B H F R rows ln seen):Hb.aO w.heap H.rb 2=some (.int .i64 (ln:Nat)):=(a6 h.cells).trans rfl
structure kI (F:aR) (rows:List Rw) (seen:List Tx):Prop where
 len:F.dd.length+F.aliases.length+F.bp.length+F.rules.length+rows.length≤70000
 sl:seen.length+rows.length≤70000
 row:∀ q∈rows,q.2≠[]∧q.2.length≤70000∧∀ x∈q.2,x.length≤70000
 kd:F.kind=1∨F.kind=2∨F.kind=3
 al:∀ l∈F.aliases,l.length≤64∧l.Pairwise (· < ·)
def St (w:World) (B:Nat) (H:dp) (F:aR) (rows:List Rw) (ln:Nat) (seen:List Tx):Prop := ∃ V R,dP w B H.fb H.mc F V∧dx w B H F R rows ln seen∧kI F rows seen
abbrev fu (B:Nat) (H:dp) (w w':World):Prop :=Mw [197,127,130,72,133,79,5] H.ms H.mt H.mc B w w'
theorem dx.dD {w w':World} {B:Nat} {H:dp} {F:aR} {R R':gR} {rows rows':List Rw} {ln ln':Nat} {seen:List Tx} (h:dx w B H F R rows ln seen) (hm:Md (fun k=>k=H.rb) w w') (A:w'.heap[H.rb]? =some (.cells (vI H R' ln').toArray 195 (0,0))) (J:R'.vn=R.vn) (G:mq w B 209 rows'.length R'.vr (kF R'.vs)) (I:gT w B 9 R'.vs rows'):dx w' B H F R' rows' ln' seen:=by
 obtain ⟨f,j,C⟩:=h.sm
 obtain ⟨g,q,E⟩:=h.tm
 have a:TF w [197] (fun k=>k=H.rb):=TF.eq (dt h.cells) az
 exact ⟨A,G.md hm (fun k hk cur z i=>a.no (dt i) az hk),I.md hm (fun k hk cur z i=>a.no (dt i) az hk),⟨f,j.md hm (a.no (ez j) az),C⟩,⟨g,q.md hm (a.no (ez q) az),E⟩,J ▸ bZ h.on hm a az,h.lo,h.ne⟩
theorem gT.tl {w:World} {B e:Nat} {q:Nat×Value} {r:Rw} {vs:List (Nat×Value)} {rs:List Rw} (h:gT w B e (q::vs) (r::rs)):gT w B e vs rs:=⟨by have :=h.1; simpa using this,fun i a j h1 h2=>h.2 (i+1) a j h1 h2⟩
theorem dP.put {w w':World} {B fb mc:Nat} {F F':aR} {V:eX} (h:dP w B fb mc F V) (hm:Md (fun k=>k=fb) w w') (q:w'.heap[fb]? =some (.cells (oG F' V mc).toArray 125 (0,0))) (h1:F'.dd=F.dd) (h2:F'.aliases=F.aliases) (h3:F'.bp=F.bp) (h4:F'.rules=F.rules) (h5:F'.sp.length=5):dP w' B fb mc F' V:=by
 have a:TF w [127] (fun k=>k=fb):=TF.eq (dt h.cells) az
 have j:∀ k,k=fb→∀ cur z,w.heap[k]?≠some (.cells cur 51 z):=fg h.cells az
 obtain ⟨f,i,A⟩:=h.cm
 exact ⟨q,h1 ▸ bZ h.o9 hm a az,h2 ▸ bZ h.eO hm a az,h2 ▸ h.al.md hm j,h3 ▸ bZ h.ej hm a az,h4 ▸ bZ h.dB hm a az,h4 ▸ h.nx.md hm j,⟨f,i.md hm (a.no (ez i) az),h3 ▸ A⟩,h.lo,h5⟩
theorem dx.fb {w w':World} {B:Nat} {H:dp} {F i:aR} {V:eX} {R:gR} {rows:List Rw} {ln:Nat} {seen:List Tx} (h:dx w B H F R rows ln seen) (j:dP w B H.fb H.mc i V) (hm:Md (fun k=>k=H.fb) w w'):dx w' B H F R rows ln seen:=by
 have a:TF w [127] (fun k=>k=H.fb):=TF.eq (dt j.cells) az
 obtain ⟨f,q,C⟩:=h.sm
 obtain ⟨g,A,E⟩:=h.tm
 exact h.md hm a az (a.no (ez q) az)<|a.no (ez A) az
theorem dP.rb {w w':World} {B:Nat} {H:dp} {F a:aR} {V:eX} {R:gR} {rows:List Rw} {ln:Nat} {seen:List Tx} (h:dP w B H.fb H.mc a V) (j:dx w B H F R rows ln seen) (hm:Md (fun k=>k=H.rb) w w'):dP w' B H.fb H.mc a V:=by
 have i:TF w [197] (fun k=>k=H.rb):=TF.eq (dt j.cells) az
 obtain ⟨f,q,A⟩:=h.cm
 exact h.md hm i az<|i.no (ez q) az
theorem dx.congr {w:World} {B:Nat} {H:dp} {F F':aR} {R:gR} {rows:List Rw} {ln:Nat} {seen:List Tx} (h:dx w B H F R rows ln seen) (j:F'.rules=F.rules) (hd:∀ x,eB F' x=eB F x):dx w B H F' R rows ln seen:=by
 obtain ⟨g,a,i⟩:=h.tm
 exact ⟨h.cells,h.rws,h.rt,h.sm,⟨g,a,fun x q=>by rw [hd]; exact i x q⟩,j ▸ h.on,h.lo,h.ne⟩
theorem dx.vz {w w':World} {B:Nat} {H:dp} {F F':aR} {R:gR} {rows:List Rw} {ln:Nat} {seen:List Tx} {f:Value→Option Value} (h:dx w B H F R rows ln seen) (hm:Md (fun k=>k=H.mt) w w') (j:dq w'.heap H.mt (pO .u16) f) (E:F'.rules=F.rules) (hd:∀ x:Nat,x≠0→(f<|bc x).getD (.int .i64 0)= .int .i64 ((if eB F' x=true then 1 else 0:Nat):Nat)):dx w' B H F' R rows ln seen:=by
 obtain ⟨g,C,_⟩:=h.tm
 obtain ⟨f0,q,A⟩:=h.sm
 have a:TF w [1] (fun k=>k=H.mt):=TF.eq (ez C) az
 exact ⟨hm.gy a h.cells az,h.rws.md hm (fun k hk cur z i=>a.no (dt i) az hk),h.rt.md hm (fun k hk cur z i=>a.no (dt i) az hk),⟨f0,q.md hm h.ne.1,A⟩,⟨f,j,hd⟩,E ▸ bZ h.on hm a az,h.lo,h.ne⟩
theorem dP.vz {w w':World} {B:Nat} {H:dp} {F a:aR} {V:eX} {R:gR} {rows:List Rw} {ln:Nat} {seen:List Tx} (h:dP w B H.fb H.mc a V) (i:dx w B H F R rows ln seen) (hm:Md (fun k=>k=H.mt) w w'):dP w' B H.fb H.mc a V:=by
 obtain ⟨g,j,_⟩:=i.tm
 exact h.md (L:= [1]) hm (TF.eq (ez j) az) az fun h=>i.ne.2.2 h.symm
theorem fu.fb {w w':World} {B:Nat} {H:dp} {i:aR} {V:eX} (a:dP w B H.fb H.mc i V) (hm:Md (fun k=>k=H.fb) w w'):fu B H w w':=Mw.of hm (TF.eq (dt a.cells) az) fun k hk=>hk ▸ a.lo.1
theorem fu.rb {w w':World} {B:Nat} {H:dp} {F:aR} {R:gR} {rows:List Rw} {ln:Nat} {seen:List Tx} (a:dx w B H F R rows ln seen) (hm:Md (fun k=>k=H.rb) w w'):fu B H w w':=Mw.of hm (TF.eq (dt a.cells) az) fun k hk=>hk ▸ a.lo.1
theorem fu.mt {w w':World} {B:Nat} {H:dp} {F:aR} {R:gR} {rows:List Rw} {ln:Nat} {seen:List Tx} (a:dx w B H F R rows ln seen) (hm:Md (fun k=>k=H.mt) w w'):fu B H w w':=hm.mono fun k _ hk=>⟨hk ▸ a.lo.2.2,.inr<|.inl hk⟩
def js (B:Nat) (H:dp) (seen:List Tx) (X:Except (Nat×Nat) (aR×List Rw)) (w:World) (v:Value) (w':World):Prop :=v= .tuple #[]∧∃ F' rows' ln',X= .ok (F',rows')∧St w' B H F' rows' ln' seen∧fu B H w w'
def jr (B:Nat) (H:dp) (X:Except (Nat×Nat) (aR×List Rw)) (w:World) (c:List PanicEntry) (w':World):Prop := ∃ l e,X= .error (l,e)∧c=jk 47 l (e:Nat)∧fu B H w w'
def ko (F:aR) (seen:List Tx):Prop := ∀ k∈dZ,k∉seen→F.sp.getD (dZ.idxOf k) 0=0
theorem Sk {F:aR} {i x:Nat} (hi:i < F.sp.length) (a:F.sp.getD i 0=0) (y:Nat) (C:y≠0):eB {F with sp:=F.sp.set i x} y=(decide (y=x) || eB F y):=by
 unfold eB
 show (decide (y∈F.sp.set i x) || _)=_
 rw [← Bool.or_assoc]
 congr 1
 rw [← Bool.decide_or,decide_eq_decide]
 constructor
 · intro h
   rcases EF h with h | h
   · exact .inr h
   · exact .inl h
 · rintro (h | h)
   · subst h; exact List.mem_set hi _
   · obtain ⟨j,A⟩:=wT h
     by_cases q:i=j
     · subst q
       rw [cQ,A] at a
       exact absurd a C
     · exact iJ (i:=j)<|by rw [kX,if_neg q]; exact A
theorem Tg.vA {w:World} {B e q n cp b:Nat} {a:Option Addr} {xs:List Value} {cs:Array Value} {z:Nat×Nat} (h:Tg w B e n (.slice a n cp) xs) (I:xs≠[]) (i:w.heap[b]? =some (.cells cs q z)) (E:e≠q):¬(bk a=b):=by
 obtain ⟨J,M,G,_,C⟩:=h
 cases G
 rcases C with rfl | ⟨j,cur,z2,rfl,_,A,_⟩
 · exact absurd aa I
 · rintro rfl
   rw [show (bk<|some ⟨j,0,none⟩)=j from rfl] at i
   rw [A] at i
   simp only [fL,wq] at i
   exact E i.2.1
theorem Tn {F:aR} {V:eX} {mc i o x:Nat} (h5:F.sp.length=5) (hi:i < 5) (j:o=3 +i):(oG F V mc).set o (bc x)=oG {F with sp:=F.sp.set i x} V mc:=by
 subst j
 obtain ⟨k,cs,tr,sp,le,q,al,cl,ru⟩:=F
 match sp,h5 with
 | [a,b,c,d,e],_=>
   match i,hi with
   | 0,_=>rfl
   | 1,_=>rfl
   | 2,_=>rfl
   | 3,_=>rfl
   | 4,_=>rfl
theorem Hg (b:Bool):decide (((if b=true then 1 else 0:Nat):Int)=0)= !b:=by cases b <;> rfl
theorem L0 {x y:Nat} (h:bc x=bc y):x=y:=by unfold bc at h; injection h with _ h; omega
theorem LQ {F F':aR} {f:Value→Option Value} {x:Nat} (hd:eB F x=false) (j:∀ y:Nat,y≠0→(f<|bc y).getD (.int .i64 0)= .int .i64 ((if eB F y=true then 1 else 0:Nat):Nat)) (i:∀ y,y≠0→eB F' y=(decide (y=x) || eB F y)) (y:Nat) (a:y≠0):(bS f (bc x) (.int .i64 (1:Nat))<|bc y).getD (.int .i64 0)= .int .i64 ((if eB F' y=true then 1 else 0:Nat):Nat):=by
 rw [i y a]
 by_cases h:y=x
 · subst h; rw [vE]; simp
 · rw [tE (fun h2=>h<|L0 h2),j y a]; simp [h]
theorem ib {G:Nat→Prop} {w w':World} (h:Md G w.drew w'):Md G w w':=⟨h.os,h.output,h.size,h.cy⟩
theorem ek.get {w:World} {B e i:Nat} {vs:List Value} {a:List (List Nat)} (h:ek w B e vs a) (hi:i < a.length):∃ v,vs[i]? =some v∧Tg w B e (a.getD i []).length v ((a.getD i []).map bc):=by
 have h1:i < vs.length:=by rw [h.1]; exact hi
 refine ⟨vs[i],cz h1,h.2 i _ _ (cz h1) ?_⟩
 rw [cQ,cz hi]; rfl
theorem Tg.tB {w:World} {B e n cp:Nat} {a:Option Addr} {xs:List Value} (h:Tg w B e n (.slice a n cp) xs) (q:xs.length=n) (i:a=none):n=0:=by
 obtain ⟨C,G,A,_,j⟩:=h
 cases A
 rcases j with rfl | ⟨E,cur,z2,h2,_⟩
 · exact q.symm
 · rw [i] at h2; cases h2
theorem Tg.JL {G:Nat→Prop} {w w':World} {B e n:Nat} {v:Value} {xs:List Value} (h:Tg w B e n v xs) (hm:Md G w w') (q:∀ k,G k→k < B):Tg w' B e n v xs:=by
 obtain ⟨a,cp,rfl,i,h | ⟨b,cur,z,rfl,A,j,C⟩⟩:=h
 · exact ⟨a,cp,aa,i,.inl h⟩
 · exact ⟨_,cp,aa,i,.inr ⟨b,cur,z,aa,A,by rw [hm.cy b (dm.1 j).1 (fun hk=>by have :=q b hk; omega)]; exact j,C⟩⟩
end Go.Hb.fq
end
