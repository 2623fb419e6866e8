/-
  Walks and plain laws that the law rests on, laid together. No conditions but those that each theorem names.
-/
import Derived.Test.YtchkamdekbbgeaaGreatDoorMnAnalyseStems1
set_option linter.unusedVariables false
set_option maxRecDepth 20000
set_option maxHeartbeats 1000000
open Array renaming foldl_toList→PT,getElem?_eq_some_iff→dT,getElem?_setIfInBounds_ne→wa,getElem?_setIfInBounds_self_of_lt→wc,length_toList→yw,range→rL,toArray_toList→BM,toList_filter→BN,toList_inj→BO,toList_map→oc,toList_modify→BQ,toList_push→GW
open Bool renaming and_eq_true→iq,eq_iff_iff→sW,noConfusion→eA,or_eq_false_iff→oY
open Classical renaming not_not→jT
open Except.ok renaming injEq→ud
open Go.Calls renaming mono→lU
open Go.CallsD renaming mono→P2
open Go.Code renaming wp_mono→P3
open Go.Deferred renaming ofValue→sX
open Go.Extern.BytealgCount renaming count→aeO
open Go.Extern.BytealgIndexByte renaming indexByte→aeP
open Go.Extern renaming find→P8,findNext→P9
open Go.Fence renaming wide→rN
open Go.Instr renaming checkKey→p6,entryStore→Qb,field→Qc,fill→od,findKey→ug,findNow→uh,keyThatStays→G0,mapEntry→G1,mapUpdate→G2,sameBits→Qf,sameNow→G3,sliceAt→ui,sliceBounds→qG,sureAddr→sY,typeAssert→Qg
open Go.Lib renaming indexByte→Qh,run_clear_slice→Qi
open Go.Obj.cells renaming injEq→yE
open Go.Oper renaming semAt_eq→Qj,upon→mJ,uponIn→BW,wp→kG
open Go.Program renaming underlying→Qk
open Go.Region renaming Mode→uk,ready→ly
open Go.Result renaming andThen_ok→oZ
open Go.Rows renaming mono→Hd
open Go.Sem renaming run→um,run_bind→o0,run_pure→rQ
open Go.Value renaming agg→ca,ownBlock→jU,slice→cg
open Go.Value.slice renaming injEq→og
open Go.World renaming alloc_heap_new→Qt,frozen?→Qu,ownsRow→bB,putObj_heap_other→BZ,putObj_heap_same→Qv,setCell→B3
open List.Pairwise renaming filter→aeR,imp→aeS
open List renaming append_assoc→e6,append_nil→eJ,eq_nil_of_length_eq_zero→fY,ext_getElem?→qI,filterMap_cons→B6,filter_cons→o3,filter_eq_self→B7,flatMap_cons→kI,flatMap_map→QI,flatMap_nil→Hn,foldl_cons→ta,getD_cons_succ→QJ,getD_cons_zero→mq,getD_eq_getElem?_getD→da,getElem?_append_left→nq,getElem?_append_right→oh,getElem?_cons_zero→wv,getElem?_eq_getElem→cz,getElem?_eq_some_iff→fS,getElem?_inj→Hp,getElem?_map→gi,getElem?_modify→QL,getElem?_of_mem→ur,getElem?_set→lW,getElem?_toArray→QN,length_append→bP,length_cons→db,length_drop→fM,length_filter_le→o5,length_map→fH,length_nil→gC,length_replicate→qa,length_singleton→fE,length_take→dM,mapM_toArray→yR,map_append→fZ,map_cons→tc,map_map→QP,mem_append→gq,mem_append_left→Cb,mem_append_right→wz,mem_cons→eL,mem_cons_of_mem→om,mem_cons_self→o6,mem_flatMap→rT,mem_map→iT,mem_map_of_mem→uu,mem_of_getElem?→gL,mem_or_eq_of_mem_set→Hs,mem_range→nr,mem_singleton→gD,nil_append→qL,nodup_append→yS,nodup_cons→Cd,not_mem_nil→wH,pairwise_cons→lz,pairwise_lt_range→QW,pairwise_map→QX,range→gZ,replicate→kZ,size_toArray→qM,take_append→uw,take_of_length_le→eK,take_take→Q2,take_zero→oq,zipIdx_cons→Cg
open Nat renaming add_sub_cancel→ux,ble→o7,blt→iU,le_of_ble_eq_true→td,le_refl→cU,min_eq_left→qN,mul_le_mul_right→qO,mul_one→nu,succ_mul→rV,zero_le→iK
open Option renaming bind_some→rW,map_eq_some_iff→ou,map_some→lX
open Option.some renaming inj→wS,injEq→gM
open Prod renaming fst→iW
open Prod.mk renaming injEq→uz
open UInt8 renaming toNat→Re,toNat_inj→lA
open Go.Proofs.Tryz
open Go.RowKit

section
namespace Go.Hb
abbrev Tx:Type :=List UInt8
structure dD where
 flag:Nat
 kind:Nat
 eQ:Bool
 first :Nat
 count:Nat
structure dd where
 kind:Nat
 flag:Nat
 eQ:Bool
 strip:Tx
 add:Tx
 cond:Tx
 next :List Nat
 line:Nat
structure aX where
 kind:Nat
 tA:Tx
 tr:Tx
 sp:List Nat
 least:Nat
 dF:List (Tx×Tx)
 aliases:List (List Nat)
 bG:List dD
 rules:List dd
def jh:Tx:= [70,76,65,71]
def jt:Tx:= [83,69,84]
def jz:Tx:= [84,82,89]
def kV:Tx:= [78,69,69,68,65,70,70,73,88]
def lg:Tx:= [70,79,82,66,73,68,68,69,78,87,79,82,68]
def lM:Tx:= [75,69,69,80,67,65,83,69]
def mj:Tx:= [67,79,77,80,79,85,78,68,70,76,65,71]
def mE:Tx:= [78,79,83,85,71,71,69,83,84]
def kU:Tx:= [67,79,77,80,79,85,78,68,77,73,78]
def fQ:Tx:= [82,69,80]
def ff:Tx:= [65,70]
def gx:Tx:= [80,70,88]
def dG:Tx:= [83,70,88]
def tH:Tx:= [115,104,111,114,116]
def vu:Tx:= [108,111,110,103]
def xT:Tx:= [110,117,109]
def eF:List Tx:= [kV,lg,lM,mj,mE]
def width (k:Tx):Nat:=if k∈eF∨k=jh∨k=jt∨k=jz∨k=kU∨k=fQ∨k=ff then 2 else if k=gx∨k=dG then 4 else 0
def iy (w:Tx):Nat:=if w= []∨hY w=false then 21 else if 32 < w.length then 22 else 0
def eW (none:Bool) (fd:Tx):Except Nat Tx:=
 if none=true∧fd= [48] then .ok []
 else if (bK fd).2.2.2≠0 then .error (bK fd).2.2.2
 else if (bK fd).2.2.1=true then .error 114
 else if iy (bK fd).1≠0 then .error (iy (bK fd).1)
 else .ok (bK fd).1
def eB (cs:List dD) (x:Nat):Option dD:=cs.find? fun c=>decide (c.flag=x)
def e8 (f:aX) (x:Nat):Bool:=decide (x∈f.sp) || (eB f.bG x).isSome
noncomputable def iF (f:aX) (s:Tx):Except Nat Nat:=
 if (iN f.kind s).2≠0 then .error (iN f.kind s).2 else if e8 f (iN f.kind s).1=true then .error 115 else .ok (iN f.kind s).1
noncomputable def lK (kind:Nat) (s:Tx):Except Nat (List Nat):=if (eD kind s).2≠0 then .error (eD kind s).2 else .ok (eD kind s).1
noncomputable def fF (s:Tx) (most:Int):Except Nat Nat:=if (eE s most).2≠0 then .error 13 else .ok (eE s most).1
noncomputable def gJ (kind:Nat) (al:List (List Nat)) (s:Tx):Except Nat (List Nat):=
 if al= [] then lK kind s
 else match fF s al.length with
  | .error _=> .error 13
  | .ok n=>if n=0 then .error 13 else .ok (al.getD (n - 1) [])
noncomputable def lO (kind:Nat) (al:List (List Nat)) (A:Nat) (r:my):Except Nat (List Nat):=
 if r.2.2.1=true then (if A=1 then .error 118 else gJ kind al r.2.1) else .ok []
def lH (row:List Tx):Except Nat Tx:=
 if row.length=5 then (if hY (row.getD 4 [])=false then .error 21 else if (dE<|row.getD 4 []).2≠0 then .error (dE<|row.getD 4 []).2 else .ok (nf (dE<|row.getD 4 []).1)) else .ok [46]
def km (r:my):Except Nat Tx:=if r.2.2.2≠0 then .error r.2.2.2 else if r.1= [48] then .ok [] else if iy r.1≠0 then .error (iy r.1) else .ok r.1
noncomputable def gy (kind:Nat) (al:List (List Nat)) (c:dD) (ln:Nat) (row:List Tx):Except Nat dd:=
 if row.length≠4∧row.length≠5 then .error 111
 else match eW true (row.getD 2 []) with
  | .error e=> .error e
  | .ok st=>match km (bK<|row.getD 3 []) with
    | .error e=> .error e
    | .ok ad=>match lO kind al c.kind (bK<|row.getD 3 []) with
      | .error e=> .error e
      | .ok nx=>match lH row with
        | .error e=> .error e
        | .ok cd=> .ok ⟨c.kind,c.flag,c.eQ,st,ad,cd,nx,ln⟩
def ll (ln:Nat) (row:List Tx):Except Nat (Tx×Tx):=
 if row.length≠3 then .error 111
 else match eW false (row.getD 1 []) with
  | .error e=> .error e
  | .ok a=>match eW true (row.getD 2 []) with
    | .error e=> .error e
    | .ok b=> .ok (a,b)
noncomputable def k8 (kind:Nat) (ln:Nat) (row:List Tx):Except Nat (List Nat):=if row.length≠2 then .error 111 else lK kind (row.getD 1 [])
def group {α:Type} (hd:List Tx) (rd:Nat→List Tx→Except Nat α) (eof:Nat):Nat→List Rw→Except (Nat×Nat) (List α×List Rw)
 | 0,rows=> .ok ([],rows)
 | _+1,[]=> .error (eof,116)
 | n+1,(ln,row)::rows=>if row.take hd.length≠hd then .error (ln,116) else match rd ln row with
   | .error e=> .error (ln,e)
   | .ok x=>match group hd rd eof n rows with
     | .error e=> .error e
     | .ok r=> .ok (x::r.1,r.2)
def ki (s:Tx):Nat:=if s=tH then 1 else if s=vu then 2 else if s=xT then 3 else 0
def ordered (hs:List Tx):Bool:= !hs.any fun h=>decide (h∈eF∨h=ff∨h=gx∨h=dG)
noncomputable def iu (eof:Nat) (f:aX) (rows:List Rw) (ln:Nat) (row:List Tx):Except (Nat×Nat) (aX×List Rw):=
 match iF f (row.getD 1 []) with
 | .error e=> .error (ln,e)
 | .ok x=>if row.getD 2 []≠[89]∧row.getD 2 []≠[78] then .error (ln,114)
   else match fF (row.getD 3 []) 1024 with
    | .error e=> .error (ln,e)
    | .ok n=>if 1024 < f.rules.length+n then .error (ln,117)
      else match group [row.getD 0 [],row.getD 1 []] (gy f.kind f.aliases ⟨x,if row.getD 0 []=dG then 2 else 1,decide (row.getD 2 []= [89]),f.rules.length,n⟩) eof n rows with
       | .error e=> .error e
       | .ok r=> .ok ({f with bG:=f.bG++ [⟨x,if row.getD 0 []=dG then 2 else 1,decide (row.getD 2 []= [89]),f.rules.length,n⟩],rules:=f.rules++r.1},r.2)
noncomputable def kF (f:aX) (rows:List Rw) (ln:Nat) (row:List Tx):Except (Nat×Nat) (aX×List Rw):=
 match iF f (row.getD 1 []) with
 | .error e=> .error (ln,e)
 | .ok x=> .ok ({f with sp:=f.sp.set (eF.idxOf<|row.getD 0 []) x},rows)
def kW (f:aX) (hs:List Tx) (rows:List Rw) (ln:Nat) (row:List Tx):Except (Nat×Nat) (aX×List Rw):=
 if ordered hs=false then .error (ln,113) else if ki (row.getD 1 [])=0 then .error (ln,114) else .ok ({f with kind:=ki<|row.getD 1 []},rows)
def nb (f:aX) (rows:List Rw) (ln:Nat) (row:List Tx):Except (Nat×Nat) (aX×List Rw):=
 if hY (row.getD 1 [])=false then .error (ln,21) else .ok ({f with tA:=row.getD 1 []},rows)
def nk (f:aX) (rows:List Rw) (ln:Nat) (row:List Tx):Except (Nat×Nat) (aX×List Rw):=
 if (letE<|row.getD 1 []).2≠0 then .error (ln,(letE<|row.getD 1 []).2) else .ok ({f with tr:=(letE<|row.getD 1 []).1},rows)
noncomputable def lj (f:aX) (rows:List Rw) (ln:Nat) (row:List Tx):Except (Nat×Nat) (aX×List Rw):=
 match fF (row.getD 1 []) 64 with
 | .error e=> .error (ln,e)
 | .ok n=>if n=0 then .error (ln,13) else .ok ({f with least:=n},rows)
noncomputable def kE (eof:Nat) (f:aX) (rows:List Rw) (ln:Nat) (row:List Tx):Except (Nat×Nat) (aX×List Rw):=
 match fF (row.getD 1 []) 256 with
 | .error e=> .error (ln,e)
 | .ok n=>match group [fQ] ll eof n rows with
   | .error e=> .error e
   | .ok r=> .ok ({f with dF:=f.dF++r.1},r.2)
noncomputable def kn (eof:Nat) (f:aX) (hs:List Tx) (rows:List Rw) (ln:Nat) (row:List Tx):Except (Nat×Nat) (aX×List Rw):=
 if gx∈hs∨dG∈hs then .error (ln,113)
 else match fF (row.getD 1 []) 1024 with
  | .error e=> .error (ln,e)
  | .ok n=>match group [ff] (k8 f.kind) eof n rows with
    | .error e=> .error e
    | .ok r=> .ok ({f with aliases:=f.aliases++r.1},r.2)
noncomputable def cW (eof:Nat) (f:aX) (hs:List Tx) (rows:List Rw) (ln:Nat) (row:List Tx):Except (Nat×Nat) (aX×List Rw):=
 if row.getD 0 []∈eF then kF f rows ln row
 else if row.getD 0 []=jh then kW f hs rows ln row
 else if row.getD 0 []=jt then nb f rows ln row
 else if row.getD 0 []=jz then nk f rows ln row
 else if row.getD 0 []=kU then lj f rows ln row
 else if row.getD 0 []=fQ then kE eof f rows ln row
 else if row.getD 0 []=ff then kn eof f hs rows ln row
 else iu eof f rows ln row
noncomputable def iH (eof:Nat):Nat→aX→List Tx→List Rw→Except (Nat×Nat) aX
 | 0,f,_,rows=>if rows= [] then .ok f else .error (0,0)
 | _+1,f,_,[]=> .ok f
 | k+1,f,hs,(ln,row)::rows=>
   if width (row.getD 0 [])=0 then .error (ln,110)
   else if row.length≠width (row.getD 0 []) then .error (ln,111)
   else if width (row.getD 0 [])=2∧row.getD 0 []∈hs then .error (ln,112)
   else match cW eof f hs rows ln row with
    | .error e=> .error e
    | .ok r=>iH eof k r.1 (hs++ [row.getD 0 []]) r.2
def nS (f:aX) (x:Nat):Bool:=decide (x=f.sp.getD 0 0) || (match eB f.bG x with | some c=>decide (c.kind=2) | none=>false)
def po (f:aX) (r:dd):Bool:=r.next.any fun x=> !nS f x
def jb:aX:=⟨1,[],[],[0,0,0,0,0],3,[],[],[],[]⟩
noncomputable def ga (t:Tx):Except (Nat×Nat) aX:=
 if 65536 < t.length then .error (0,10)
 else match iH ((bU t).length+1) (cx t).length jb [] (cx t) with
  | .error e=> .error e
  | .ok f=>match f.rules.find? (po f) with
    | some r=> .error (r.line,118)
    | none=> .ok f
theorem xP {α:Type} {hd:List Tx} {rd:Nat→List Tx→Except Nat α} {eof:Nat} :∀ (n:Nat) (rows:List Rw) (r:List α×List Rw),group hd rd eof n rows= .ok r→r.2.length≤rows.length∧r.1.length=n∧∀ q∈r.2,q∈rows:=by
 intro n
 induction n with
 | zero=>intro rows r h; simp only [group,ud] at h; subst h; exact ⟨cU _,rfl,fun q A=>A⟩
 | succ n C=>
   intro rows r h;cases rows with
   | nil=>simp [group] at h
   | cons q rows=>
     obtain ⟨ln,row⟩:=q;simp only [group] at h;split at h
     · cases h
     · cases hr:rd ln row with
       | error e=>rw [hr] at h; cases h
       | ok x=>
         rw [hr] at h;simp only at h;cases hg:group hd rd eof n rows with
         | error e=>rw [hg] at h; cases h
         | ok E=>
           rw [hg] at h;simp only [ud] at h;subst h;have :=C rows E hg;refine ⟨by simp only [db]; omega,by simp only [db]; omega,fun q A=>om _<|this.2.2 q A⟩
def jL {α:Type} (hd:List Tx) (rd:Nat→List Tx→Except Nat α) (eof:Nat) (T:Except (Nat×Nat) (List α×List Rw)) (xs:List α) (n:Nat) (rows:List Rw):Prop :=
 T=match group hd rd eof n rows with
  | .error e=> .error e
  | .ok r=> .ok (xs++r.1,r.2)
theorem jL.start {α:Type} {hd:List Tx} {rd:Nat→List Tx→Except Nat α} {eof n:Nat} {rows:List Rw} :jL hd rd eof (group hd rd eof n rows) [] n rows:=by
 unfold jL; cases group hd rd eof n rows <;> rfl
section
variable {α:Type} {hd:List Tx} {rd:Nat→List Tx→Except Nat α} {eof n:Nat} {T:Except (Nat×Nat) (List α×List Rw)} {xs:List α} {rows:List Rw} {ln:Nat} {row:List Tx}
theorem jL.ends (h:jL hd rd eof T xs n []) (hn:0 < n):T= .error (eof,116):=by
 obtain ⟨m,rfl⟩:∃ m,n=m+1:=⟨n - 1,aj⟩
 exact h
theorem jL.other (h:jL hd rd eof T xs n ((ln,row)::rows)) (hn:0 < n) (A:row.take hd.length≠hd):T= .error (ln,116):=by
 obtain ⟨m,rfl⟩:∃ m,n=m+1:=⟨n - 1,aj⟩
 unfold jL at h; simp only [group] at h; rw [if_pos A] at h; exact h
theorem jL.bad {e:Nat} (h:jL hd rd eof T xs n ((ln,row)::rows)) (hn:0 < n) (A:row.take hd.length=hd) (he:rd ln row= .error e):T= .error (ln,e):=by
 obtain ⟨m,rfl⟩:∃ m,n=m+1:=⟨n - 1,aj⟩
 unfold jL at h; simp only [group] at h; rw [if_neg (fun h2=>h2 A),he] at h; exact h
theorem jL.step {x:α} (h:jL hd rd eof T xs n ((ln,row)::rows)) (hn:0 < n) (A:row.take hd.length=hd) (he:rd ln row= .ok x):jL hd rd eof T (xs++ [x]) (n - 1) rows:=by
 obtain ⟨m,rfl⟩:∃ m,n=m+1:=⟨n - 1,aj⟩
 unfold jL at h ⊢; simp only [group] at h; rw [if_neg (fun h2=>h2 A),he] at h;simp only [ux] at h ⊢;rw [h];cases group hd rd eof m rows with
 | error e=>rfl
 | ok r=>simp only [e6]; rfl
theorem jL.done (h:jL hd rd eof T xs 0 rows):T= .ok (xs,rows):=by
 unfold jL at h; simpa [group] using h
end
end Go.Hb
end
section
set_option linter.unusedSimpArgs false
namespace Go.Hb
open Classical
structure mP (P:Program) (k:TypeId) (isK:Value→Prop):Prop where
 key:wV P k isK
 stays:∀ w v,isK v→(G0 v v).run P w= .ok v w
def j5 (v:Value):Prop := ∃ s:List UInt8,v=str s
def lf (q:IntKind) (v:Value):Prop := ∃ a:Int,v= .int q a
theorem KQ {d:TypeDesc} {isK:Value→Prop} (hs:∀ x y,isK x→isK y→∃ A,G3 d x y=some A∧(A=true↔x=y)) {x:Value} (G:isK x):∀ (es:List MapEntry) (i:Nat),(∀ e∈es,isK e.key)→
 (uh d x es i=some none∧∀ e∈es,e.key≠x)∨∃ j e,uh d x es i=some (some (i+j,e.val))∧es[j]? =some e∧e.key=x
 | [],i,_=> .inl ⟨rfl,fun _ h=>by simp at h⟩
 | e::es,i,h=>by
   obtain ⟨A,h1,h2⟩:=hs x e.key G<|h e<|by simp
   cases A with
   | true =>exact .inr ⟨0,e,by simp [uh,h1],rfl,(h2.1 rfl).symm⟩
   | false =>
     have J:e.key≠x:=fun I=>by cases h2.2 I.symm
     rcases KQ hs G es (i+1) (fun e he=>h e<|by simp [he]) with ⟨h3,h4⟩ | ⟨j,C,h3,h4,h5⟩
     · refine .inl ⟨by simp [uh,h1,h3],fun C E=> ?_⟩;rcases eL.1 E with rfl | E
       · exact J
       · exact h4 C E
     · refine .inr ⟨j+1,C,?_,h4,h5⟩;simp only [uh,h1,h3]; rw [show i+1 +j=i+(j+1) from by omega]
theorem MF {P:Program} {k:TypeId} {d:TypeDesc} {isK:Value→Prop} (hk:P.underlying k=some d) (hs:∀ x y,isK x→isK y→∃ A,G3 d x y=some A∧(A=true↔x=y)) (C:∀ em w v,isK v→(p6 em 10000 k v).run P w= .ok () w):wV P k isK where
 check:=C
 find w x es hx hes:=by
  rcases KQ hs hx es 0 hes with ⟨h1,h2⟩ | ⟨j,e,h1,h2,h3⟩
  · exact .inl ⟨by simp [ug,ep hk,h1],h2⟩
  · exact .inr ⟨j,e,by simp [ug,ep hk,h1],h2,h3⟩
theorem CE (a b:ByteArray):(a==b)=decide (a=b):=by
 rw [sW,decide_eq_true_iff];show ((a.data==b.data)=true)↔_;rw [beq_iff_eq];exact ⟨fun h=>by cases a; cases b; cases h; rfl,fun h=>by rw [h]⟩
theorem ZP {P:Program} {k:TypeId} (hk:P.underlying k=some .string):mP P k j5 where
 key:=MF hk (by
  rintro _ _ ⟨a,rfl⟩ ⟨b,rfl⟩;refine ⟨_,ag,?_⟩;rw [CE,decide_eq_true_iff];constructor
  · intro h; unfold str; rw [h]
  · intro h; unfold str at h; cases h; rfl) (by rintro em w _ ⟨a,rfl⟩; exact Jn (n:=9999) hk w)
 stays w v hv:=by obtain ⟨a,rfl⟩:=hv; simp [G0,Qf,str,CE]
theorem UD {P:Program} {k:TypeId} {q r:IntKind} {em:Bool} {n:Nat} {a:Int} (hk:P.underlying k=some (.int q)) (w:World):(p6 em (n+1) k<|.int r a).run P w= .ok () w:=by
 simp only [p6,o0,ep hk,oZ,rQ]
theorem ME {P:Program} {k:TypeId} {q r:IntKind} (hk:P.underlying k=some (.int q)):mP P k (lf r) where
 key:=MF hk (by
  rintro _ _ ⟨a,rfl⟩ ⟨b,rfl⟩;refine ⟨decide (a=b),by simp [G3]; rfl,?_⟩;rw [decide_eq_true_iff];exact ⟨fun h=>by rw [h],fun h=>by cases h; rfl⟩) (by rintro em w _ ⟨a,rfl⟩; exact UD (n:=9999) hk w)
 stays w v hv:=by obtain ⟨a,rfl⟩:=hv; simp [G0,Qf]
def dq (h:Array Obj) (b:Nat) (isK:Value→Prop) (f:Value→Option Value):Prop :=
 ∃ kvs,tj h b kvs∧(∀ p∈kvs,isK p.1)∧(kvs.map iW).Nodup∧∀ k v,f k=some v↔(k,v)∈kvs
theorem dq.md {F:Nat→Prop} {w w':World} {b:Nat} {isK:Value→Prop} {f:Value→Option Value} (h:dq w.heap b isK f) (hm:Md F w w') (A:¬F b):dq w'.heap b isK f:=
 let ⟨kvs,h1,h2⟩:=h; ⟨kvs,h1.md hm A,h2⟩
theorem dq.wk {w w':World} {b:Nat} {isK:Value→Prop} {f:Value→Option Value} (h:dq w.heap b isK f) (hm:Wk w w'):dq w'.heap b isK f:=h.md hm id
theorem dq.nil {h:Array Obj} {b:Nat} {isK:Value→Prop} {c:Nat} (hm:h[b]? =some (.map #[] c)):dq h b isK fun _=>none:=
 ⟨[],⟨_,_,hm,rfl⟩,fun p hp=>(by simp at hp),(by simp),fun k v=>by simp⟩
theorem dq.isMap {h:Array Obj} {b:Nat} {isK:Value→Prop} {f:Value→Option Value} (hm:dq h b isK f):∃ es c,h[b]? =some (.map es c):=let ⟨_,⟨es,c,h1,_⟩,_⟩:=hm; ⟨es,c,h1⟩
theorem dq.pT {h:Array Obj} {b:Nat} {isK:Value→Prop} {f:Value→Option Value} (hm:dq h b isK f) {cur:Array Value} {e:TypeId} {z:Nat×Nat} :h[b]?≠some (.cells cur e z):=by
 obtain ⟨es,c,h1⟩:=hm.isMap; rw [h1]; intro h; cases h
noncomputable def bZ (f:Value→Option Value) (k v:Value):Value→Option Value:=fun q=>if q=k then some v else f q
theorem oR (f:Value→Option Value) (k v:Value):bZ f k v k=some v:=if_pos rfl
theorem mF {f:Value→Option Value} {k v q:Value} (h:q≠k):bZ f k v q=f q:=if_neg h
section
variable {P:Program} {N:Fm} {σ:Nat→Value} {w:World} {dst:Option Nat} {ty:TypeId} {pos :String} {af:Array Edge} {g:Option (Nat×Bool)} {x y z:Operand} {K:(Nat→Value)→World→Prop}
variable {t k e:TypeId} {isK:Value→Prop} {b:Nat} {f:Value→Option Value} {kx v zv:Value}
theorem MT {ok:Bool} (E:P.underlying t=some (.map k e)) (J:zeroV P e=some zv) (C:mP P k isK) (hm:dq w.heap b isK f) (G:ev N σ x= .map (some b)) (I:ev N σ y=kx) (hi:isK kx):
 (execOp (ev N σ) ⟨dst,.lookup t x y ok,ty,pos,af,g⟩).run P w= .ok (.value (if ok then .tuple #[(f kx).getD zv,.bool (f kx).isSome] else (f kx).getD zv)) w:=by
 obtain ⟨kvs,h1,h2,h3,h4⟩:=hm;cases hf:f kx with
 | none=>exact aac E J C.key h1 h2 G I hi fun v A=>by rw [← h4] at A; rw [hf] at A; cases A
 | some v=>exact aab E C.key h1 h2 G I hi h3<|(h4 kx v).1 hf
theorem mX (C:P.underlying t=some (.map k e)) (J:zeroV P e=some zv) (A:mP P k isK) (hm:dq w.heap b isK f) (G:ev N σ x= .map (some b)) (I:ev N σ y=kx) (hi:isK kx) (E:(f kx).getD zv=v):
 (execOp (ev N σ) ⟨dst,.lookup t x y false,ty,pos,af,g⟩).run P w= .ok (.value v) w:=by
 rw [MT C J A hm G I hi,E]; rfl
theorem MU {ob:Bool} (E:P.underlying t=some (.map k e)) (O:zeroV P e=some zv) (A:mP P k isK) (hm:dq w.heap b isK f) (I:ev N σ x= .map (some b)) (J:ev N σ y=kx) (hi:isK kx) (G:(f kx).getD zv=v) (C:(f kx).isSome=ob):
 (execOp (ev N σ) ⟨dst,.lookup t x y true,ty,pos,af,g⟩).run P w= .ok (.value<|.tuple #[v,.bool ob]) w:=by
 rw [MT E O A hm I J hi,G,C]; rfl
theorem Pu (ah:P.underlying t=some (.map k e)) (O:mP P k isK) (hm:dq w.heap b isK f) (hi:isK kx):
 ∃ w',(G2 t (.map<|some b) kx v).run P w= .ok () w'∧Md (fun j=>j=b) w w'∧dq w'.heap b isK (bZ f kx v):=by
 obtain ⟨kvs,⟨es,c,J,he⟩,h2,h3,h4⟩:=hm;have Z:=(dT.1 J).1;rcases O.key.find w kx es.toList hi (DJ he h2) with ⟨h1,ap⟩ | ⟨j,Y,h1,E,h5⟩
 · have ae:∀ u,(kx,u)∉kvs:=fun u hu=>by
    rw [← he] at hu;obtain ⟨ai,am,aj⟩:=iT.1 hu;cases aj;exact ap ai am ag
   refine ⟨{w with heap:=w.heap.setIfInBounds b<|.map (es.push {key:=kx,val:=v,born:=c})<|c+1},by simp [G2,ep ah,run_getObj_map J,O.key.check _ w kx hi,h1,setObj,um,J],⟨ag,ag,by simp,fun i _ G=>by simp only; rw [wa (fun e=>G e.symm)]⟩,kvs++ [(kx,v)],⟨_,_,by simp only; rw [wc Z],by simp [he]⟩,?_,?_,?_⟩
   · intro p hp;rcases gq.1 hp with hp | hp
     · exact h2 p hp
     · rw [gD.1 hp]; exact hi
   · rw [fZ,yS];refine ⟨h3,by simp,?_⟩;intro a ak au aa al;simp at aa;subst al aa;obtain ⟨p,hp,aq⟩:=iT.1 ak;exact ae p.2<|by rw [← aq]; exact hp
   · intro q u;unfold bZ;rw [gq,gD];by_cases C:q=kx
     · subst C;rw [if_pos rfl];constructor
       · intro h; cases h; exact .inr rfl
       · rintro (h | h)
         · exact absurd h<|ae u
         · cases h; rfl
     · rw [if_neg C,h4];constructor
       · exact .inl
       · rintro (h | h)
         · exact h
         · cases h; exact absurd rfl C
 · have av:j < es.size:=by have :=(fS.1 E).1; simpa using this
   have ab:es[j]? =some Y:=by simpa using E
   refine ⟨{w with heap:=w.heap.setIfInBounds b<|.map (es.modify j fun e=> {e with key:=kx,val:=v}) c},?_,⟨ag,ag,by simp,fun i _ G=>by simp only; rw [wa (fun e=>G e.symm)]⟩,kvs.set j (kx,v),⟨_,_,by simp only; rw [wc Z],?_⟩,?_,?_,?_⟩
   · have hs:=O.stays w kx hi;simp [G2,ep ah,run_getObj_map J,O.key.check _ w kx hi,h1,ab,h5,hs,setObj,um,J]
   · rw [← he];apply qI;intro i;simp only [BQ,gi,QL,lW,fH];by_cases I:j=i
     · subst I; rw [E]; simp; have :=(fS.1 E).1; simpa using this
     · simp [I]
   · intro p hp;rcases Hs hp with hp | hp
     · exact h2 p hp
     · rw [hp]; exact hi
   · have :(kvs.set j (kx,v)).map iW=kvs.map iW:=by
      apply qI;intro i;simp only [gi,lW];by_cases I:j=i
      · subst I;rw [← he]; simp only [gi,E,fH];have :=(fS.1 E).1;simp [this,h5];simpa using this
      · simp [I]
     rw [this]; exact h3
   · intro q u;have V:kvs[j]? =some (kx,Y.val):=by rw [← he]; simp [E,h5,ab]
     have ac:=(fS.1 V).1;have ao:(kx,v)∈kvs.set j (kx,v):=gL (i:=j)<|by rw [lW,if_pos rfl,if_pos ac]
     unfold bZ;by_cases C:q=kx
     · subst C;rw [if_pos rfl];constructor
       · intro h; cases h; exact ao
       · intro h;obtain ⟨i,A⟩:=ur h;rw [lW] at A;split at A
         · rename_i an;subst an;cases A; rfl
         · rename_i G;exfalso;exact G<|(Hp (i:=j) (j:=i) (by simpa using ac) h3).1<|by simp [V,A]
     · rw [if_neg C,h4];constructor
       · intro h;obtain ⟨i,A⟩:=ur h;have G:j≠i:=by rintro rfl; rw [V] at A; cases A; exact C rfl
         exact gL (i:=i)<|by rw [lW,if_neg G]; exact A
       · intro h;rcases Hs h with h | h
         · exact h
         · cases h; exact absurd rfl C
theorem tZ (E:P.underlying t=some (.map k e)) (A:mP P k isK) (hm:dq w.heap b isK f) (G:ev N σ x= .map (some b)) (I:ev N σ y=kx) (J:ev N σ z=v) (hi:isK kx)
 (O:∀ w',Md (fun j=>j=b) w w'→dq w'.heap b isK (bZ f kx v)→K σ w'):dW P N ⟨none,.mapUpdate t x y z,ty,pos,af,g⟩ σ w K:=by
 obtain ⟨w',h1,h2,h3⟩:=Pu (v:=v) E A hm hi;have C:(execOp (ev N σ) ⟨none,.mapUpdate t x y z,ty,pos,af,g⟩).run P w= .ok .skip w':=by
  simp [execOp,G,I,J,h1]
 unfold dW kG;rw [jM,C];exact ⟨σ,ag,O w' h2 h3⟩
theorem nO (E:P.underlying t=some (.map k e)) (A:mP P k isK) (hm:dq w.heap b isK f) (G:ev N σ x= .map (some b)) (I:ev N σ y=kx) (J:ev N σ z=v) (hi:isK kx)
 (O:∀ w',Md (fun j=>j=b) w w'→dq w'.heap b isK (bZ f kx v)→K σ w'):dW P N ⟨none,.insert t x y z,ty,pos,af,g⟩ σ w K:=by
 obtain ⟨w',h1,h2,h3⟩:=Pu (v:=v) E A hm hi;have C:(execOp (ev N σ) ⟨none,.insert t x y z,ty,pos,af,g⟩).run P w= .ok .skip w':=by
  simp [execOp,G,I,J,h1]
 unfold dW kG;rw [jM,C];exact ⟨σ,ag,O w' h2 h3⟩
end
end Go.Hb
end
section
namespace Go.Hb
section
variable {P:Program} {N:Fm} {σ:Nat→Value} {w:World} {fn:Func} {R:Value→World→Prop}
theorem lv1 {t b off :Nat} {v:Value} (hu:dN P t=some none) (A:Hb.a7 w.heap b off =some v):(loadVar t ⟨b,off,none⟩).run P w= .ok v w:=by
 have C:w.cell? ⟨b,off,none⟩=some v:=by rw [pA]; exact A
 unfold dN at hu;cases hd:P.underlying t with
 | none=>rw [hd] at hu; cases hu
 | some d=>
   rw [hd] at hu;cases d <;> first
    | (simp only [ou] at hu; obtain ⟨_,_,h⟩:=hu; cases h; done)
    | simp [loadVar,isAgg,ep hd,run_load,C]
theorem lvA {t n b off :Nat} {cs:List Value} (hu:dN P t=some (some n)) (G:cs.length=n) (C:∀ j,j < n→Hb.a7 w.heap b (off+j)=cs[j]?):(loadVar t ⟨b,off,none⟩).run P w= .ok (.agg cs.toArray) w:=by
 have E:(loadCells ⟨b,off,none⟩ n).run P w= .ok cs.toArray w:=by
  subst G;refine run_loadCells_list (P:=P) w ⟨b,off,none⟩ cs fun j v A=> ?_;rw [nA,pA];exact (C j (fS.1 A).1).trans A
 unfold dN at hu;cases hd:P.underlying t with
 | none=>rw [hd] at hu; cases hu
 | some d=>
   rw [hd] at hu;cases hi:P.info? t with
   | none=>simp [Qk,hi] at hd
   | some i=>
     rw [hi] at hu;cases d <;> first
      | (cases hu; done)
      | (simp only [lX,gM] at hu; subst hu
         simp [loadVar,isAgg,ep hd,sizeOf,jH hi,E])
def pj (P:Program) (N:Fm) (σ:Nat→Value) (w:World):ResultVar→Value→Prop
 | .tmp t,v=>ev N σ (.tmp t)=v
 | .cell a t,v=> ∃ ad,ev N σ (.tmp a)= .pointer (some ad)∧(loadVar t ad).run P w= .ok v w
theorem eI {t:Tmp} :pj P N σ w (.tmp t) (ev N σ<|.tmp t):=rfl
theorem FT {a t b off :Nat} {v:Value} (C:ev N σ (.tmp a)= .pointer (some ⟨b,off,none⟩)) (hu:dN P t=some none) (A:Hb.a7 w.heap b off =some v):pj P N σ w (.cell a t) v:=⟨_,C,lv1 hu A⟩
theorem eo {a t n b off :Nat} {cs:List Value} (E:ev N σ (.tmp a)= .pointer (some ⟨b,off,none⟩)) (hu:dN P t=some (some n)) (C:cs.length=n) (A:∀ j,j < n→Hb.a7 w.heap b (off+j)=cs[j]?):pj P N σ w (.cell a t) (.agg cs.toArray):=⟨_,E,lvA hu C A⟩
def qy (tmps:Array Value):ResultVar→Sem Value
 | .tmp t=>pure<|tmps.getD t undef
 | .cell a t=>do loadVar t (← asAddr (tmps.getD a undef))
theorem oU {r:ResultVar} {v:Value} (h:pj P N σ w r v):(qy (act N σ).tmps r).run P w= .ok v w:=by
 cases r with
 | tmp t=>
   show um P (pure<|(act N σ).tmps.getD t undef) w=_;rw [p5]; simp only [pj] at h; rw [h]; rfl
 | cell a t=>
   obtain ⟨ad,h1,h2⟩:=h;show um P (do loadVar t (← asAddr ((act N σ).tmps.getD a undef))) w=_;rw [p5,h1];simp [asAddr,h2]
theorem ab8 {tmps:Array Value} {r:ResultVar} {v:Value} (h:fn.results= #[r]) (h1:(qy tmps r).run P w= .ok v w):(results fn tmps).run P w= .ok v w:=by
 have A:(results fn tmps)=(do let vs ← #[r].mapM (qy tmps); pure (if h:vs.size=1 then vs[0] else .tuple vs)):=by
  unfold results; rw [h]; rfl
 rw [A]; simp [yR,h1]
theorem AY {tmps:Array Value} {r s:ResultVar} {v u:Value} (h:fn.results= #[r,s]) (h1:(qy tmps r).run P w= .ok v w) (h2:(qy tmps s).run P w= .ok u w):(results fn tmps).run P w= .ok (.tuple #[v,u]) w:=by
 have A:(results fn tmps)=(do let vs ← #[r,s].mapM (qy tmps); pure (if h:vs.size=1 then vs[0] else .tuple vs)):=by
  unfold results; rw [h]; rfl
 rw [A]; simp [yR,h1,h2]
theorem ab9 {tmps:Array Value} {r s q:ResultVar} {v u z:Value} (h:fn.results= #[r,s,q]) (h1:(qy tmps r).run P w= .ok v w) (h2:(qy tmps s).run P w= .ok u w) (h3:(qy tmps q).run P w= .ok z w):(results fn tmps).run P w= .ok (.tuple #[v,u,z]) w:=by
 have A:(results fn tmps)=(do let vs ← #[r,s,q].mapM (qy tmps); pure (if h:vs.size=1 then vs[0] else .tuple vs)):=by
  unfold results; rw [h]; rfl
 rw [A]; simp [yR,h1,h2,h3]
theorem xx {r:ResultVar} {v:Value} (h:fn.results= #[r]) (h1:pj P N σ w r v) (A:R v w):fin P fn N R .ret σ w:=⟨v,ab8 h (oU h1),A⟩
theorem eV {r s:ResultVar} {v u:Value} (h:fn.results= #[r,s]) (h1:pj P N σ w r v) (h2:pj P N σ w s u) (A:R (.tuple #[v,u]) w):fin P fn N R .ret σ w:=⟨_,AY h (oU h1) (oU h2),A⟩
theorem KD {r s q:ResultVar} {v u z:Value} (h:fn.results= #[r,s,q]) (h1:pj P N σ w r v) (h2:pj P N σ w s u) (h3:pj P N σ w q z) (A:R (.tuple #[v,u,z]) w):fin P fn N R .ret σ w:=⟨_,ab9 h (oU h1) (oU h2) (oU h3),A⟩
end
end Go.Hb
end
section
namespace Go.Hb
def qC (P:Program) (N:Fm) (c:Code) (B:Exit→Act→World→Prop) (σ:Nat→Value) (w:World):Prop :=c.wpIn (fe N.r) 0 P B (act N σ) w
def qb (N:Fm) (B:Exit→Act→World→Prop):Exit→(Nat→Value)→World→Prop :=fun e σ w=>B e (act N σ) w
section
variable {P:Program} {N:Fm} {B:Exit→Act→World→Prop} {σ:Nat→Value} {w:World}
theorem jw {x y:Code} (h:qC P N x (Exit.then (y.wpIn (fe N.r) 0 P B) B) σ w):qC P N (.seq x y) B σ w:=wpIn_seq h
theorem jF {y:Code} (h:qC P N y B σ w):qb N (Exit.then (y.wpIn (fe N.r) 0 P B) B) .normal σ w:=h
theorem prt {y:Act→World→Prop} (h:qb N B .ret σ w):qb N (Exit.then y B) .ret σ w:=h
theorem FV (h:qb N B .ret σ w):qC P N .ret B σ w:=wpIn_ret h
theorem j6 {c:Code} (h:eG P N c (qb N B) σ w):qC P N c B σ w:=by
 unfold eG at h;refine wpIn_mono h ?_;intro e a w A;cases e with
 | panic c=>obtain ⟨σ,rfl,C⟩:=A; exact C σ fun _ _=>rfl
 | outgrown=>exact A.elim
 | _=>obtain ⟨σ,rfl,C⟩:=A; exact C
end
theorem A3 (fn:Func) (args:List Value) (F:List Nat) (hn:o7 args.length fn.ntmps=true):({tmps:=args.toArray++Array.replicate (fn.ntmps - args.toArray.size) undef,defers:= []} :Act)=act ⟨fn.ntmps,[],F,none⟩ (nY args):=by
 have A:args.length≤fn.ntmps:=by simpa using hn
 refine y0 ag fun i=> ?_;rw [qW];simp only [nY,da,qM];by_cases h1:i < args.length
 · rw [Array.getElem?_append_left (by simpa using h1),if_pos aj];simp [h1]
 · rw [Array.getElem?_append_right (by simpa using h1)];simp only [qM,Array.getElem?_replicate];by_cases h2:i < fn.ntmps
   · rw [if_pos aj,if_pos h2,List.getElem?_eq_none aj]; rfl
   · rw [if_neg aj,if_neg h2]
abbrev Bm (P:Program) (fn:Func) (R:Value→World→Prop):Exit→Act→World→Prop :=bodyPostM rN 0 P fn (fun e w'=> ∃ v,e= .returned v∧R v w')
theorem Kw {P:Program} {f:FuncId} {N:Nat} {fn:Func} {c:Code} {args:List Value} {w:World} {R:Value→World→Prop} (F:List Nat) (E:P.funcs[f]? =some fn) (C:fn.body=some c)
 (A:fn.ntmps=N) (hn:o7 args.length N=true) (h:qC P ⟨N,[],F,none⟩ c (Bm P fn R) (nY args) w):bw P f args.toArray w R:=by
 subst A;refine callsIn_wide.1<|callsIn_of_wp_marks (F:=rN) (n:=0) E C trivial ?_;rw [A3 fn args F hn];exact h
section
variable {P:Program} {n:Nat} {F:List Nat} {σ:Nat→Value} {w:World} {fn:Func} {R:Value→World→Prop}
theorem ZZ {e:Exit} (he:e= .ret∨e= .normal) {v:Value} (C:(results fn (act ⟨n,[],F,none⟩ σ).tmps).run P w= .ok v w) (A:R v w):qb ⟨n,[],F,none⟩ (Bm P fn R) e σ w:=by
 rcases he with rfl | rfl <;> exact ⟨v,C,v,rfl,A⟩
theorem KB {t u:Nat} {v A:Value} (h:fn.results= #[.tmp t,.tmp u]) (E:ev ⟨n,[],F,none⟩ σ (.tmp t)=v) (hu:ev ⟨n,[],F,none⟩ σ (.tmp u)=A) (C:R (.tuple #[v,A]) w):qb ⟨n,[],F,none⟩ (Bm P fn R) .ret σ w:=
 ZZ (.inl rfl) (by rw [results_tmp2 h,p5,p5,E,hu]) C
theorem Z0 {D:Nat} {v:Value} (A:w.heap[D]? =some (.deferred<|some [])) (E:∀ w',(results fn (act ⟨n,[{target:= .collected D,args:= #[]}],F,none⟩ σ).tmps).run P w'= .ok v w') (C:R v (w.putObj D<|.deferred none)):
 qb ⟨n,[{target:= .collected D,args:= #[]}],F,none⟩ (Bm P fn R) .ret σ w:=
 ⟨FrameMode.noConfusion,.inl ⟨_,_,rfl,run_takeDeferred A,⟨v,E _,v,rfl,C⟩⟩⟩
theorem KC {D t u:Nat} {v A:Value} (h:fn.results= #[.tmp t,.tmp u]) (G:ev ⟨n,[{target:= .collected D,args:= #[]}],F,none⟩ σ (.tmp t)=v) (hu:ev ⟨n,[{target:= .collected D,args:= #[]}],F,none⟩ σ (.tmp u)=A)
 (C:w.heap[D]? =some (.deferred<|some [])) (E:R (.tuple #[v,A]) (w.putObj D<|.deferred none)):qb ⟨n,[{target:= .collected D,args:= #[]}],F,none⟩ (Bm P fn R) .ret σ w:=
 Z0 C (fun w'=>by rw [results_tmp2 h,p5,p5,G,hu]) E
end
theorem eh {w:World} {B t size n pp A:Nat} {v:Value} {xs:List Value} {cs:Array Value} {z:Nat×Nat} (h:w.ownsRow B t size v n xs) (hp:w.heap[pp]? =some (.cells cs A z)) (E:t≠A):v.ownBlock≠some pp:=by
 intro hk;rcases h.2 with ⟨h1,_⟩ | ⟨g,cap,cur,h1,_,C,_⟩
 · rw [h1] at hk; simp [jU] at hk
 · rw [h1] at hk;simp only [jU,gM] at hk;subst hk;rw [C] at hp;simp only [gM,yE] at hp;exact E hp.2.1
section
variable {P:Program} {N:Fm} {σ:Nat→Value} {w:World} {dst:Option Nat} {ty:TypeId} {pos :String} {af:Array Edge} {g:Option (Nat×Bool)} {x:Operand} {K:(Nat→Value)→World→Prop}
theorem CF {e:TypeId} {v:Value} (A:ev N σ x=v) (h1:v.oneCell'=true) (k:∀ b w',b=w.heap.size→Nw w w'→w'.heap[b]? =some (.cells [v].toArray e (0,0))→K (gK σ dst<|.pointer<|some ⟨b,0,none⟩) w'):
 dW P N ⟨dst,.box e x,ty,pos,af,g⟩ σ w K:=by
 refine oW (v:=fun b=> .pointer<|some ⟨b,0,none⟩) (ob:= .cells [v].toArray e (0,0)) ?_ k;have :=qu h1;simp [execOp,Instr.box,A,this,newVar,newRow]
end
theorem vw (w:World) (k:Nat) (o:Obj):Md (fun j=>j=k) w (w.putObj k o):=
 ⟨rfl,rfl,by simp [World.putObj],fun j _ A=>BZ A⟩
def k4 (w w':World):Prop := ∀ (k:Nat) (o:Obj),w.heap[k]? =some o→((∀ cur e z,o≠.cells cur e z)∧∀ es c,o≠.map es c)→w'.heap[k]? =some o
theorem k4.trans {a b c:World} (h:k4 a b) (A:k4 b c):k4 a c:=fun k o C hn=>A k o (h k o C hn) hn
theorem k4.md {F:Nat→Prop} {w w':World} (hm:Md F w w') (C:∀ k,F k→∃ cur e z,w.heap[k]? =some (.cells cur e z)):k4 w w':=fun k o A hn=>by
 rw [hm.dJ k (dT.1 A).1 (fun hk=>by obtain ⟨c,e,z,h⟩:=C k hk; rw [A] at h; exact hn.1 _ _ _<|wS h)]; exact A
theorem k4.wk {w w':World} (hm:Wk w w'):k4 w w':=k4.md hm fun _ h=>h.elim
theorem x7 {w:World} {B e size n:Nat} {v:Value} {xs:List Value} (h:w.ownsRow B e size v n xs):∀ k,v.ownBlock=some k→∃ cur e z,w.heap[k]? =some (.cells cur e z):=by
 intro k hk;rcases h.2 with ⟨rfl,_⟩ | ⟨g,cap,C,rfl,_,A,_⟩
 · simp [jU] at hk
 · simp only [jU,gM] at hk; subst hk; exact ⟨_,_,_,A⟩
def Rt {α:Type} (B:Nat) (A:List α→World→Prop):Prop := ∀ pre W W' (F:Nat→Prop),A pre W→Md F W W'→(∀ k,F k→B≤k∧∀ cur e z,W.heap[k]?≠some (.cells cur e z))→A pre W'
section
variable {F:Nat→Prop} {W W':World} {B:Nat}
theorem Bk {b e:Nat} {cs:Array Value} {z:Nat×Nat} (h:W.heap[b]? =some (.cells cs e z)) (hm:Md F W W') (A:∀ k,F k→B≤k∧∀ cur e z,W.heap[k]?≠some (.cells cur e z)):W'.heap[b]? =some (.cells cs e z):=by
 rw [hm.dJ b (dT.1 h).1 (fun hk=>(A b hk).2 _ _ _ h)]; exact h
theorem OW {B' e size n:Nat} {v:Value} {xs:List Value} (h:W.ownsRow B' e size v n xs) (hm:Md F W W') (A:∀ k,F k→B≤k∧∀ cur e z,W.heap[k]?≠some (.cells cur e z)):W'.ownsRow B' e size v n xs:=
 dz h hm fun k hk C=>by obtain ⟨c,e,z,h1⟩:=x7 h k hk; exact (A k C).2 _ _ _ h1
theorem OX {w:World} (h:Wk w W) (hm:Md F W W') (E:w.heap.size≤B) (A:∀ k,F k→B≤k∧∀ cur e z,W.heap[k]?≠some (.cells cur e z)):Wk w W':=Md.trans' h hm fun k hk C=>by have :=(A k C).1; omega
end
def HA {α:Type} (P:Program) (J:Nat) (O:Array Value) (I:α→Array Value) (xs:List α) (G:World→Prop):Prop :=
 ∀ (l:Nat) (A:List α→World→Prop) (W:World),A [] W→(∀ pre W,A pre W→G W)→(∀ pre C E,A pre C→Wk C E→A pre E)→
   (∀ pre x rest C,xs=pre++x::rest→A pre C→YieldAt rN 0 P l (I x) C fun e W'=>e= .returned (.bool true)∧A (pre++ [x]) W')→
   Calls P J (#[.func (.yield l) #[] #[]]++O) W fun e W'=>(∃ v,e= .returned v)∧A xs W'
def ab2 (R:World→Prop):Exit→(Nat→Value)→World→Prop
 | .normal,_,w=>R w
 | _,_,_=>False
theorem Rv (N:Fm):∀ (l:List (Tmp×Value)) (σ:Nat→Value),l.foldl (fun t p=>t.setIfInBounds p.1 p.2) (act N σ).tmps=(act N<|l.foldl (fun s p=>ea s p.1 p.2) σ).tmps:=by
 intro l
 induction l with
 | nil=>intro σ; rfl
 | cons p l A=>
   intro σ;rw [ta,ta,← A];congr 1;have :=congrArg Act.tmps<|lD N σ (some p.1) p.2;exact this
theorem N9 {α:Type} {P:Program} {id n:Nat} {g:Operand} {ps:Array Tmp} {ac body:Code} {Fx:List Nat} {σ:Nat→Value} {w:World} {B:Exit→Act→World→Prop} {aa:Nat} {ab:Array Value}
 (V:α→Array Value) (xs:List α) (am:World→Prop) (E:List α→World→Prop) (aH:ev ⟨n,[],Fx,none⟩ σ g= .func (.func aa) #[] ab) (aE:bu P aa) (aO:∀ x,(V x).size=ps.size)
 (aJ:HA P aa ab V xs am) (ay:E [] w) (aF:∀ pre W,E pre W→am W) (ae:Rt w.heap.size E) (av:α→Nat→Value)
 (aC:∀ (l:Nat) (x:α) (W:World) (K:(Nat→Value)→World→Prop),K (av x) W→eG P ⟨n,[],[],some l⟩ ac (nj K fun _ _ _=>False) ((ps.toList.zip (V x).toList).foldl (fun s p=>ea s p.1 p.2) σ) W)
 (aD:∀ (l:Nat) (pre:List α) (x:α) (rest:List α) (W:World),xs=pre++x::rest→E pre W→eG P ⟨n,[],[],some l⟩ body (ab2 fun W'=>k4 W W'∧E (pre++ [x]) W') (av x) W)
 (hd:∀ (D:Nat) (W:World),w.heap.size≤D→E xs W→W.heap[D]? =some (.deferred<|some [])→qb ⟨n,[{target:= .collected D,args:= #[]}],Fx,none⟩ B .normal σ W):
 qC P ⟨n,[],Fx,none⟩ (.block id<|.rangeFunc g ps ac body) B σ w:=by
 refine wpIn_block<|wpIn_rangeFunc ?_;intro fn _;obtain ⟨rc,Z⟩:∃ rc:LoopState→Option Code→Loop,rc=fun st aR=> {state:=st,pending:=aR,fn,tmps:=(act ⟨n,[],Fx,none⟩ σ).tmps,params:=ps,assign:=ac,body,defers:=w.heap.size} :=⟨_,rfl⟩
 obtain ⟨G,ah⟩:∃ G,(w.alloc<|.deferred<|some []).alloc (.loop<|rc .ready none)=G:=⟨_,rfl⟩
 have aB:G.heap[w.heap.size+1]? =some (.loop<|rc .ready none):=by
  rw [← ah]; have :=Qt (w.alloc<|.deferred<|some []) (.loop<|rc .ready none); rwa [World.size_alloc] at this
 have aA:G.heap[w.heap.size]? =some (.deferred<|some []):=by
  rw [← ah]; exact (Below.heap_alloc _ _ _<|by simp).trans<|Qt w _
 have hn:∀ (W:World) (o:Obj),Wk W (W.alloc o):=fun W o=>(NA W o).md;have az:E [] G:=by rw [← ah]; exact ae _ _ _ _ (ae _ _ _ _ ay (hn _ _) fun _ h=>h.elim) (hn _ _) fun _ h=>h.elim
 have aG:(act ⟨n,[],Fx,none⟩ σ).eval g= .func (.func aa) #[] ab:=by rw [jM]; exact aH
 refine ⟨w.heap.size+1,[{target:= .collected w.heap.size,args:= #[]}],G,{target:= .fn (.func aa) ab,args:= #[.func (.yield<|w.heap.size+1) #[] #[]]},G,aa,
  #[.func (.yield<|w.heap.size+1) #[] #[]]++ab,G,?_,?_,fun _ _=>trivial,?_,fun ax=>(by cases ax),?_⟩
 · rw [← ah,Z]; exact run_enterLoop_outer _ _ _ _ _
 · simp only [resolve,aG];simp [go_sem]
 · have :=aE (#[.func (.yield<|w.heap.size+1) #[] #[]]++ab) G;simp [invoke,go_sem,this]
 · have ak:∀ (pre:List α) (W:World) (o al:Obj),E pre W→W.heap[w.heap.size+1]? =some o→(∀ cur e z,o≠.cells cur e z)→E pre (W.putObj (w.heap.size+1) al):=fun pre W o al h1 h2 h3=>
    ae _ _ _ _ h1 (vw W _ al) fun k hk=>⟨aj,fun cur e z h4=>by subst hk; rw [h2] at h4; exact h3 _ _ _<|wS h4⟩
   refine callsIn_wide.2 (lU (aJ (w.heap.size+1)
    (fun pre W=>E pre W∧W.heap[w.heap.size+1]? =some (.loop<|rc .ready none)∧W.heap[w.heap.size]? =some (.deferred<|some []))
    G ⟨az,aB,aA⟩ (fun pre W h=>aF pre W h.1)
    (fun pre A C h hm=>⟨ae _ _ _ _ h.1 hm (fun _ h=>h.elim),(hm.dJ _ (dT.1 h.2.1).1 fun h=>h).trans h.2.1,(hm.dJ _ (dT.1 h.2.2).1 fun h=>h).trans h.2.2⟩) ?_) ?_)
   · rintro pre x rest W aQ ⟨hi,Y,hk⟩;have aN:w.heap.size+1 < W.heap.size:=(dT.1 Y).1;have aq:=run_yield (P:=P) (args:=V x) Y<|by rw [Z]; exact aO x
     rw [Z] at aq;refine ⟨fn,_,ac,body,aq,roundIn_of_wpIn (F:=rN) trivial ?_⟩;have aP:((ps.zip<|V x).foldl (fun tmps (p:Tmp×Value)=>tmps.setIfInBounds p.1 p.2) (act ⟨n,[],Fx,none⟩ σ).tmps)=(act ⟨n,[],[],some<|w.heap.size+1⟩<|(ps.toList.zip (V x).toList).foldl (fun s p=>ea s p.1 p.2) σ).tmps:=by
      rw [← PT,Array.toList_zip];exact Rv ⟨n,[],[],some<|w.heap.size+1⟩ _ σ
     have h1:=aC (w.heap.size+1) x W (fun O W'=> ∃ au,(Instr.beginRound<|w.heap.size+1).run P W'= .ok () au∧
      body.wpIn (rN.inRound<|w.heap.size+1) 0 P (roundPost P (w.heap.size+1) fun e W'=>e= .returned (.bool true)∧E (pre++ [x]) W'∧W'.heap[w.heap.size+1]? =some (.loop<|rc .ready none)∧W'.heap[w.heap.size]? =some (.deferred<|some [])) (act ⟨n,[],[],some<|w.heap.size+1⟩ O) au) ?_
     · unfold eG at h1;have aw:({tmps:=(ps.zip<|V x).foldl (fun tmps (p:Tmp×Value)=>tmps.setIfInBounds p.1 p.2) (act ⟨n,[],Fx,none⟩ σ).tmps,defers:= []} :Act)=act ⟨n,[],[],some<|w.heap.size+1⟩ ((ps.toList.zip (V x).toList).foldl (fun s p=>ea s p.1 p.2) σ):=by rw [aP]; rfl
       rw [aw];refine wpIn_mono h1 ?_;intro e a w' I;cases e with
       | normal=>obtain ⟨O,rfl,J⟩:=I; exact J
       | panic c=>obtain ⟨O,rfl,J⟩:=I; exact J O fun _ _=>rfl
       | outgrown=>exact I.elim
       | _=>obtain ⟨O,rfl,J⟩:=I; exact J
     refine ⟨_,run_beginRound Y (by rw [Z]),?_⟩;have aM:(W.putObj (w.heap.size+1)<|.loop {rc .ready none with state:= .busy}).heap[w.heap.size+1]? =some (.loop {rc .ready none with state:= .busy}):=Qv aN;have aK:(W.putObj (w.heap.size+1)<|.loop {rc .ready none with state:= .busy}).heap[w.heap.size]? =some (.deferred<|some []):=(BZ aj).trans hk;have h2:=aD (w.heap.size+1) pre x rest _ aQ<|ak _ _ _ (.loop {rc .ready none with state:= .busy}) hi Y fun _ _ _ h=>by cases h
     unfold eG at h2;refine wpIn_mono h2 ?_;intro e a aT I;cases e with
     | normal=>
       obtain ⟨O,rfl,an,aI⟩:=I;have ai:=an _ _ aM ⟨(fun _ _ _ h=>by cases h),fun _ _ h=>by cases h⟩;have aL:=an _ _ aK ⟨(fun _ _ _ h=>by cases h),fun _ _ h=>by cases h⟩;have ao:=run_endRound (P:=P) none ai;rw [Z] at ao ai ⊢;exact ⟨_,_,ao,ag,ak _ _ _ _ aI ai (fun _ _ _ h=>by cases h),Qv (dT.1 ai).1,(BZ aj).trans aL⟩
     | panic c=>obtain ⟨O,rfl,J⟩:=I; exact (J O fun _ _=>rfl).elim
     | outgrown=>exact I.elim
     | _=>obtain ⟨O,rfl,J⟩:=I; exact J.elim
   · rintro e aS ⟨⟨v,rfl⟩,hi,Y,hk⟩;have ap:=run_endLoop (P:=P) Y<|by rw [Z]; simp
     rw [Z] at ap;refine ⟨none,_,ap,?_⟩;rw [Z] at Y;exact hd w.heap.size _ (cU _) (ak _ _ _ _ hi Y fun _ _ _ h=>by cases h)<|(BZ aj).trans hk
section
variable {P:Program} {N:Fm} {ops:Array Oper} {Q:Exit→(Nat→Value)→World→Prop} {rest:List Oper} {σ:Nat→Value} {w:World} {d':Option Nat} {d:Nat} {op:Op} {ty:TypeId} {pos :String} {af:Array Edge} {v:Value}
def qD (P:Program) (N:Fm) (ops:Array Oper) (Q:Exit→(Nat→Value)→World→Prop) (l:List Oper) (σ:Nat→Value) (w:World):Prop :=wpListIn (fe N.r) 0 P ops (lift N Q) l (act N σ) w
theorem rgy {id:Nat} {l:List Oper} (h:qD P N l.toArray Q l σ w):eG P N (.region id l.toArray false) Q σ w:=by
 unfold eG; exact wpIn_region_lit h
theorem nly (h:Q .normal σ w):qD P N ops Q [] σ w:=⟨σ,rfl,h⟩
def Fb (o:Op):Bool:=match o with | .defer _=>false | _=>true
theorem aaP {o:Op} (h:Fb o=true):∀ c,o≠.defer c:=fun c e=>by subst e; cases h
theorem ey (hn:Fb op=true) (h:dW P N ⟨d',op,ty,pos,af,none⟩ σ w (fun σ w=>qD P N ops Q rest σ w)):qD P N ops Q (⟨d',op,ty,pos,af,none⟩::rest) σ w:=by
 unfold qD wpListIn;rw [if_pos (kY _ rfl _)];refine ⟨fun f _=>zT _ f,?_⟩;rw [DM,Qj _ _ _ (aaP hn)];unfold dW kG at h;generalize (execOp (act N σ).eval ⟨d',op,ty,pos,af,none⟩).run P w=x at h ⊢;cases x with
 | ok n w'=>
   cases n <;> simp only [mJ,BW] at h ⊢ <;>
    first
     | (obtain ⟨E,C,hk⟩:=h; rw [C]; exact hk)
     | (refine ⟨fun A=>(by rw [xy] at A; cases A),CallsIn.mono (KI h) fun e w'' he=> ?_⟩
        cases e with
        | returned v=>obtain ⟨E,C,hk⟩:=he; simp only; rw [C]; exact hk
        | panicked c=>exact he.elim
        | outgrown=>obtain ⟨_,_,G⟩:=he; exact G.elim)
     | (refine ⟨fun A=>(by rw [xy] at A; cases A),RowsIn.mono (KJ h) fun v w'' he=> ?_⟩
        obtain ⟨E,C,hk⟩:=he; rw [C]; exact hk)
 | halt x w'=>cases x <;> simp only [mJ] at h
theorem py (hn:Fb op=true) (h:(execOp (ev N σ) ⟨some d,op,ty,pos,af,none⟩).run P w= .ok (.value v) w) (k:qD P N ops Q rest (ea σ d v) w):qD P N ops Q (⟨some d,op,ty,pos,af,none⟩::rest) σ w:=
 ey hn (np h k)
theorem ylr {l:Nat} {fo:Operand} {args:Array Operand} {A:Array TypeId} {L:List Value} {R:World→Prop} (J:ev N σ fo= .func (.yield l) #[] #[]) (G:args.toList.map (ev N σ)=L)
 (V:YieldAt rN 0 P l L.toArray w fun e W'=>e= .returned (.bool true)∧R W') (k:∀ W',R W'→qD P N ops Q rest (ea σ d<|.bool true) W'):
 qD P N ops Q (⟨some d,.call ⟨.value fo,args,A⟩,ty,pos,af,none⟩::rest) σ w:=by
 obtain ⟨fn,tmps,a,b,I,E⟩:=V;unfold qD wpListIn;rw [if_pos (kY _ rfl _)];refine ⟨fun f _=>zT _ f,?_⟩;rw [DM,Qj _ _ _ (fun c e=>by cases e),jM];have hm:args.map (ev N σ)=L.toArray:=by rw [← G,← oc]
 have O:(execOp (ev N σ) ⟨some d,.call ⟨.value fo,args,A⟩,ty,pos,af,none⟩).run P w= .ok (.round l fn tmps a b) w:=by
  simp [execOp,resolve,J,sX,invoke,hm,I]
 rw [O];simp only [BW];refine ⟨fun C=>(by rw [xy] at C; cases C),?_⟩;have h1:RoundIn (fe N.r) (0 - 1) P l fn tmps a b w fun e W'=>e= .returned (.bool true)∧R W':=by
  cases hr:N.r with
  | none=>exact E
  | some k=>exact E
 refine RoundIn.mono h1 ?_;rintro e W' ⟨rfl,hw⟩;simp only;rw [lD];exact k W' hw
end
end Go.Hb
end
section
namespace Go.Hb
def gv (P:Program) (f:FuncId) (args:Array Value) (w:World) (R:Value→World→Prop) (Pn:List PanicEntry→World→Prop):Prop :=
 Calls P f args w fun e w'=>(∃ v,e= .returned v∧R v w')∨∃ c,e= .panicked c∧Pn c w'
def KO (P:Program) (fn:Func) (N:Fm) (R:Value→World→Prop) (Pn:List PanicEntry→World→Prop):Exit→(Nat→Value)→World→Prop
 | .normal,σ,w=> ∃ v,(results fn (act N σ).tmps).run P w= .ok v w∧R v w
 | .ret,σ,w=> ∃ v,(results fn (act N σ).tmps).run P w= .ok v w∧R v w
 | .panic c,_,w=>Pn c w
 | _,_,_=>False
theorem kr {P:Program} {fn:Func} {N:Fm} {R:Value→World→Prop} {Pn:List PanicEntry→World→Prop} {e:Exit} {σ:Nat→Value} {w:World} (h:fin P fn N R e σ w):KO P fn N R Pn e σ w:=by
 cases e <;> first | exact h | exact h.elim
theorem kR {P:Program} {f:FuncId} {N:Nat} {fn:Func} {c:Code} {args:List Value} {w:World} {R:Value→World→Prop} {Pn:List PanicEntry→World→Prop} (O:P.funcs[f]? =some fn) (J:fn.body=some c)
 (I:fn.ntmps=N) (hn:o7 args.length N=true) (h:eG P ⟨N,[],[],none⟩ c (KO P fn ⟨N,[],[],none⟩ R Pn) (nY args) w):gv P f args.toArray w R Pn:=by
 subst I;refine calls_of_wp O J ?_;rw [A3 fn args [] hn];unfold eG at h;refine P3 ?_<|wpIn_wide.1 h;intro e a w A;cases e with
 | normal=>obtain ⟨σ,rfl,v,G,E⟩:=A; exact ⟨rfl,v,G,.inl ⟨v,rfl,E⟩⟩
 | ret=>obtain ⟨σ,rfl,v,G,E⟩:=A; exact ⟨rfl,v,G,.inl ⟨v,rfl,E⟩⟩
 | exit id=>obtain ⟨σ,rfl,C⟩:=A; exact C.elim
 | goto l=>obtain ⟨σ,rfl,C⟩:=A; exact C.elim
 | panic c=>obtain ⟨σ,rfl,C⟩:=A; exact ⟨rfl,.inr ⟨c,rfl,C σ fun _ _=>rfl⟩⟩
 | outgrown=>exact A.elim
section
variable {P:Program} {N:Fm} {Q:Exit→(Nat→Value)→World→Prop} {σ:Nat→Value} {w:World} {ops:Array Oper} {rest:List Oper} {dst:Option Nat} {ty:TypeId} {pos :String} {af:Array Edge} {g:Option (Nat×Bool)} {x:Operand}
def qE (P:Program) (N:Fm) (o:Oper) (σ:Nat→Value) (w:World) (K:(Nat→Value)→World→Prop) (Pn:List PanicEntry→World→Prop):Prop :=
 kG P o (act N σ) w (fun a w=> ∃ σ,a=act N σ∧K σ w) (fun e a w=>match e with | .panic c=>a=act N σ∧Pn c w | _=>False)
theorem BH {o:Oper} {K:(Nat→Value)→World→Prop} {Pn:List PanicEntry→World→Prop} {A:Act→World→Prop} (h:qE P N o σ w K Pn) (hk:∀ σ w,K σ w→A (act N σ) w) (hp:∀ c w',Pn c w'→∀ G,(∀ i∈N.F,G i=σ i)→Q (.panic c) G w'):o.wp P (act N σ) w A (lift N Q):=by
 unfold qE at h;unfold kG at*;generalize (execOp (act N σ).eval o).run P w=r at h ⊢;have C:∀ a w,(∃ σ,a=act N σ∧K σ w)→A a w:=by rintro a w ⟨σ,rfl,h⟩; exact hk _ _ h
 have E:∀ c (a:Act) w',(a=act N σ∧Pn c w')→lift N Q (.panic c) a w':=by rintro c a w' ⟨rfl,h⟩; exact ⟨σ,rfl,hp c w' h⟩
 cases r with
 | ok n w'=>
   cases n <;> simp only [mJ] at h ⊢ <;>
    first
     | exact C _ _ h
     | exact lU h (fun e w'' he=>by
      cases e with
      | returned v=>exact C _ _ he
      | panicked c=>exact E _ _ _ ⟨rfl,he.2⟩
      | outgrown=>obtain ⟨_,_,I⟩:=he; exact I.elim)
     | exact Hd h fun _ _ he=>C _ _ he
 | halt x w'=>cases x <;> simp only [mJ] at h ⊢ <;> exact E _ _ _ ⟨rfl,h.2⟩
theorem et {f:FuncId} {args:Array Operand} {A:Array TypeId} {L:List Value} {R:Value→World→Prop} {Pn:List PanicEntry→World→Prop} {K:(Nat→Value)→World→Prop} (I:bu P f) (J:gv P f L.toArray w R Pn) (C:args.toList.map (ev N σ)=L)
 (k:∀ v w',R v w'→K (gK σ dst v) w'):qE P N ⟨dst,.call ⟨.value (.func f),args,A⟩,ty,pos,af,g⟩ σ w K Pn:=by
 unfold qE kG;have hm:args.map (ev N σ)=L.toArray:=by rw [← C,← oc]
 have O:(execOp (ev N σ) ⟨dst,.call ⟨.value (.func f),args,A⟩,ty,pos,af,g⟩).run P w= .ok (.enter f L.toArray) w:=by
  have h2:=I L.toArray w;simp [execOp,resolve,ev,sX,invoke,hm,h2]
 rw [jM,O];simp only [mJ];refine lU J ?_;rintro e w' (⟨v,rfl,G⟩ | ⟨c,rfl,E⟩)
 · exact ⟨_,lD ..,k v w' G⟩
 · exact ⟨trivial,E⟩
theorem PK {f:FuncId} {fo:Operand} {first cap:Array Value} {args:Array Operand} {A:Array TypeId} {L:List Value} {R:Value→World→Prop} {Pn:List PanicEntry→World→Prop} {K:(Nat→Value)→World→Prop} (I:bu P f) (O:ev N σ fo= .func (.func f) first cap) (J:gv P f L.toArray w R Pn) (C:first.toList++args.toList.map (ev N σ)++cap.toList=L)
 (k:∀ v w',R v w'→K (gK σ dst v) w'):qE P N ⟨dst,.call ⟨.value fo,args,A⟩,ty,pos,af,g⟩ σ w K Pn:=by
 unfold qE kG;have hm:first++args.map (ev N σ)++cap=L.toArray:=by rw [← C]; simp
 have V:(execOp (ev N σ) ⟨dst,.call ⟨.value fo,args,A⟩,ty,pos,af,g⟩).run P w= .ok (.enter f L.toArray) w:=by
  have h2:=I L.toArray w;simp only [execOp,resolve,O,sX,invoke];simp [hm,h2]
 rw [jM,V];simp only [mJ];refine lU J ?_;rintro e w' (⟨v,rfl,G⟩ | ⟨c,rfl,E⟩)
 · exact ⟨_,lD ..,k v w' G⟩
 · exact ⟨trivial,E⟩
theorem eP {o:Oper} {Pn:List PanicEntry→World→Prop} (C:o.guard=none) (h:qE P N o σ w (fun σ w=>fz P N ops Q rest σ w) Pn) (hp:∀ c w',Pn c w'→∀ A,(∀ i∈N.F,A i=σ i)→Q (.panic c) A w'):fz P N ops Q (o::rest) σ w:=by
 unfold fz wpList;rw [if_pos (kY o C _)];refine .inl<|BH h (fun σ w hk=> ?_) hp;unfold fz at hk; exact hk
theorem pnc {t:TypeId} {v:Value} (E:ev N σ x= .iface t v) (hp:∀ A,(∀ i∈N.F,A i=σ i)→Q (.panic [{v:= .iface t v,recovered:=false}]) A w):fz P N ops Q (⟨dst,.panic x,ty,pos,af,none⟩::rest) σ w:=by
 unfold fz wpList;rw [if_pos (kY _ rfl _)];refine .inl ?_;unfold kG;have C:(execOp (ev N σ) ⟨dst,.panic x,ty,pos,af,none⟩).run P w= .halt (.panic<|.iface t v) w:=by
  simp [execOp,E,Instr.panic]
 rw [jM,C];exact ⟨σ,ag,hp⟩
theorem mki {t:TypeId} {d:TypeDesc} {v:Value} (hu:P.underlying t=some d) (hd:(match d with | .interface _=>false | _=>true)=true) (A:ev N σ x=v):(execOp (ev N σ) ⟨dst,.makeInterface t x,ty,pos,af,g⟩).run P w= .ok (.value<|.iface t v) w:=by
 cases d <;> first | (cases hd; done) | simp [execOp,Instr.makeInterface,A,ep hu]
def tM (P:Program) (t:TypeId):Bool:=match P.underlying t with | some (.interface _)=>false | some _=>true | none=>false
theorem aaD {t:TypeId} {v:Value} (h:tM P t=true) (A:ev N σ x=v):(execOp (ev N σ) ⟨dst,.makeInterface t x,ty,pos,af,g⟩).run P w= .ok (.value<|.iface t v) w:=by
 unfold tM at h;cases hd:P.underlying t with
 | none=>rw [hd] at h; cases h
 | some d=>rw [hd] at h; exact mki hd (by cases d <;> first | rfl | cases h) A
theorem taN {xt a:TypeId} {zv:Value} (hu:tM P a=true) (C:zeroV P a=some zv) (A:ev N σ x= .nilIface):(execOp (ev N σ) ⟨dst,.typeAssert x xt a true,ty,pos,af,g⟩).run P w= .ok (.value<|.tuple #[zv,.bool false]) w:=by
 unfold tM at hu;cases hd:P.underlying a with
 | none=>rw [hd] at hu; cases hu
 | some d=>rw [hd] at hu; cases d <;> first | (cases hu; done) | simp [execOp,Qg,A,ep hd,yv C]
theorem taI {xt a:TypeId} {v:Value} (hu:tM P a=true) (A:ev N σ x= .iface a v):(execOp (ev N σ) ⟨dst,.typeAssert x xt a true,ty,pos,af,g⟩).run P w= .ok (.value<|.tuple #[v,.bool true]) w:=by
 unfold tM at hu;cases hd:P.underlying a with
 | none=>rw [hd] at hu; cases hu
 | some d=>rw [hd] at hu; cases d <;> first | (cases hu; done) | simp [execOp,Qg,A,ep hd]
variable {S:World→Prop} {fuel:Nat} {bC:Array Bool}
theorem vt {o:Oper} {Pn:List PanicEntry→World→Prop} (i:Nat) (hi:ops[i]? =some o) (E:oQ ops bC i=true) (C:o.guard=none)
 (h:qE P N o σ w (fun σ w=>S w∧gh P N ops Q S fuel (bC.setIfInBounds i true) σ w) Pn) (hp:∀ c w',Pn c w'→∀ A,(∀ i∈N.F,A i=σ i)→Q (.panic c) A w'):gh P N ops Q S (fuel+1) bC σ w:=by
 unfold gh at*;refine wpAnyH_all (rs:= [i]) (by simpa [oQ] using E) (by simp) ?_;intro k hk;obtain rfl :k=i:=by simpa using hk
 unfold wpOp;simp only [hi];rw [if_pos (kY _ C _)];exact .inl<|BH h (fun σ w hk=>hk) hp
end
section
variable {P:Program} {N:Fm} {Q:Exit→(Nat→Value)→World→Prop} {σ:Nat→Value} {w:World} {ops:Array Oper} {S:World→Prop} {fuel:Nat} {bC:Array Bool}
theorem YZ {o A:Oper} {Pn:List PanicEntry→World→Prop} (i j:Nat) (hi:ops[i]? =some o) (I:ops[j]? =some A) (J:((ly .any ops bC)== [i,j])=true) (E:o.guard=none) (G:A.guard=none)
 (h:qE P N o σ w (fun σ w=>S w∧gh P N ops Q S fuel (bC.setIfInBounds i true) σ w) Pn) (hp:∀ c w',Pn c w'→∀ C,(∀ i∈N.F,C i=σ i)→Q (.panic c) C w')
 (h1:dW P N A σ w (fun σ w=>S w∧gh P N ops Q S fuel (bC.setIfInBounds j true) σ w)):gh P N ops Q S (fuel+1) bC σ w:=by
 unfold gh at*;refine wpAnyH_all (rs:= [i,j]) (by simpa using J) (by simp) ?_;intro k hk;simp only [eL,wH,or_false] at hk;rcases hk with rfl | rfl
 · unfold wpOp;simp only [hi];rw [if_pos (kY _ E _)];exact .inl<|BH h (fun _ _ hk=>hk) hp
 · unfold wpOp;simp only [I];rw [if_pos (kY _ G _)];exact .inl<|vV h1 fun _ _ hk=>hk
end
section
variable {P:Program} {N:Fm} {Q:Exit→(Nat→Value)→World→Prop} {σ:Nat→Value} {w:World} {ops:Array Oper} {S:World→Prop} {fuel r:Nat} {bC:Array Bool}
theorem MO {o:Oper} {Pn:List PanicEntry→World→Prop} (i:Nat) (hi:ops[i]? =some o) (I:oQ ops bC i=true) (G:o.guard=none)
 (h:qE P N o σ w (fun σ w=>S w∧im P N ops Q S r fuel (bC.setIfInBounds i true) σ w) Pn) (hp:∀ c w',Pn c w'→∀ C,(∀ i∈N.F,C i=σ i)→Q (.panic c) C w'):im P N ops Q S r (fuel+1) bC σ w:=by
 unfold im at*;have A:ly .any ops bC= [i]:=by simpa [oQ] using I
 refine ⟨fun E=>absurd (A ▸ E) (by simp),fun k hk=> ?_⟩;rw [A] at hk;obtain rfl :k=i:=by simpa using hk
 unfold wpOp;simp only [hi];rw [if_pos (kY _ G _)];exact .inl<|BH h (fun σ w hk=>⟨fun _=>hk.1,hk.2⟩) hp
end
abbrev rX (P:Program) (fn:Func) (R:Value→World→Prop):Exit→Act→World→Prop :=bodyPostD P fn (fun e w'=> ∃ v,e= .returned v∧R v w')
theorem WW {P:Program} {f:FuncId} {N:Nat} {fn:Func} {c:Code} {args:List Value} {w:World} {R:Value→World→Prop} (F:List Nat) (E:P.funcs[f]? =some fn) (C:fn.body=some c)
 (A:fn.ntmps=N) (hn:o7 args.length N=true) (h:qC P ⟨N,[],F,none⟩ c (rX P fn R) (nY args) w):bw P f args.toArray w R:=by
 subst A;refine calls_of_wp_defers E C ?_;rw [A3 fn args F hn];exact wpIn_wide.1 h
section
variable {P:Program} {n:Nat} {D:List Deferred} {F:List Nat} {σ:Nat→Value} {w:World} {fn:Func} {R:Value→World→Prop} {B:Exit→Act→World→Prop}
theorem Xj {v:Value} (C:(results fn (act ⟨n,[],F,none⟩ σ).tmps).run P w= .ok v w) (A:R v w):qb ⟨n,[],F,none⟩ (rX P fn R) .ret σ w:=⟨v,C,v,rfl,A⟩
theorem Z5:¬LetsOut (rX P fn R):=fun ⟨_,_,h⟩=>by obtain ⟨v,h,_⟩:=h; cases h
theorem Ww {id d:Nat} {f:FuncId} (V:¬LetsOut B) {cs:Array Operand} {J O:TypeId} {G I:String} {C E:Array Edge} {y:Code} (A:Array Value) (Z:cs.toList.map (ev ⟨n,[],F,none⟩ σ)=A.toList) (hd:d < n)
 (h:qC P ⟨n,[{target:= .fn (.func f) A,args:= #[]}],F,none⟩ y B (ea σ d<|.func (.func f) #[] A) w):
 qC P ⟨n,[],F,none⟩ (.region id #[⟨some d,.makeFunc (.func f) #[] cs,J,G,C,none⟩,⟨none,.defer ⟨.value (.tmp d),#[],#[]⟩,O,I,E,none⟩] false) (Exit.then (y.wpIn (fe none) 0 P B) B) σ w:=by
 have aa:cs.map (ev ⟨n,[],F,none⟩ σ)=A:=BO.1<|by rw [oc]; exact Z
 refine wpIn_region ?_;have Y:¬LetsOut (Exit.then (y.wpIn (fe none) 0 P B) B):=fun ⟨a,w,h⟩=>V ⟨a,w,h⟩;refine ED (r:=none) Y ag _ _ _ ?_;show wpOps P _ _ [0,1] _ _;simp only [wpOps,QN,wv,List.getElem?_cons_succ];rw [if_pos (kY _ rfl _)];refine .inl ?_;unfold kG;have h1:(execOp (act ⟨n,[],F,none⟩ σ).eval ⟨some d,.makeFunc (.func f) #[] cs,J,G,C,none⟩).run P w= .ok (.value<|.func (.func f) #[] A) w:=by
  rw [jM,mf,aa]; simp
 rw [h1];simp only [mJ];rw [if_pos (kY _ rfl _),lD];refine .inl ?_;have h2:(execOp (act ⟨n,[],F,none⟩<|gK σ (some d)<|.func (.func f) #[] A).eval ⟨none,.defer ⟨.value (.tmp d),#[],#[]⟩,O,I,E,none⟩).run P w= .ok (.defer {target:= .fn (.func f) A,args:= #[]}) w:=by
  have ab:ev ⟨n,[],F,none⟩ (ea σ d<|.func (.func f) #[] A) (.tmp d)= .func (.func f) #[] A:=by
   show cond (iU d n) (ea σ d _ d) undef=_;rw [show iU d n=true from by simpa using hd];show ea σ d _ d=_;unfold ea; simp
  rw [jM];show (execOp (ev ⟨n,[],F,none⟩<|ea σ d<|.func (.func f) #[] A) _).run P w=_;simp [execOp,resolve,ab,sX]
 rw [h2];exact h
end
theorem aa2 {P:Program} {ops:Array Oper} {Q:Exit→Act→List Frame→World→Prop} {cs:List Frame} (C:¬LetsOut fun e a w=>Q e a cs w):∀ (l:List Nat) (a:Act) (w:World),wpOps P ops (fun e a w=>Q e a cs w) l a w→wpOpsS P ops Q l a cs w:=by
 intro l
 induction l with
 | nil=>exact fun _ _ h=>h
 | cons i l A=>
   intro a w h;simp only [wpOps] at h;simp only [wpOpsS];cases ho:ops[i]? with
   | none=>simp only [ho] at h ⊢; exact A a w h
   | some o=>
     simp only [ho] at h ⊢;by_cases hw:Region.wanted o (yielded ops a.tmps)=true
     · rw [if_pos hw] at h ⊢;rcases h with h | h
       · unfold kG at h;generalize (execOp a.eval o).run P w=x at h;cases x with
         | ok n w'=>
           cases n <;> simp only [mJ] at h ⊢ <;>
            first
             | exact A _ _ h
             | exact lU h fun e w'' he=>by cases e <;> first | exact A _ _ he | exact he
             | exact Hd h fun v w'' he=>A _ _ he
         | halt x w'=>cases x <;> simp only [mJ] at h ⊢ <;> exact h
       · exact absurd h.2 C
     · rw [if_neg hw] at h ⊢;exact A _ _ h
theorem Z8 {P:Program} {ops:Array Oper} {Q E:Exit→Act→World→Prop} (C:∀ e a w,Q e a w→E e a w) (G:¬LetsOut Q):∀ (l:List Oper) (a:Act) (w:World),wpList P ops Q l a w→wpList P ops E l a w:=by
 intro l
 induction l with
 | nil=>exact fun _ _ h=>C _ _ _ h
 | cons o l A=>
   intro a w h;unfold wpList at h ⊢;split at h
   · rename_i hw;rw [if_pos hw];rcases h with h | h
     · left;unfold kG at h ⊢;generalize (execOp a.eval o).run P w=x at h;cases x with
       | ok n w'=>
         cases n <;> simp only [mJ] at h ⊢ <;>
          first
           | exact A _ _ h
           | exact lU h (fun e w'' he=>by
            cases e with
            | returned v=>exact A _ _ he
            | panicked c=>exact C _ _ _ he
            | outgrown=>exact absurd he G)
           | exact Hd h fun v w'' he=>A _ _ he
       | halt x w'=>cases x <;> simp only [mJ] at h ⊢ <;> exact C _ _ _ h
     · exact absurd h.2 G
   · rename_i hw;rw [if_neg hw]; exact A _ _ h
theorem Jj {P:Program} {f:FuncId} {fn:Func} {id N d:Nat} {ty:TypeId} {pos :String} {af:Array Edge} {rest:List Oper} {y:Code} {args:List Value} {w:World} {u G:FrameMode} {v:Value} {R:World→Prop}
 (ah:P.funcs[f]? =some fn) (ae:fn.body=some (.seq (.region id (⟨some d,.call ⟨.builtin .recover,#[],#[]⟩,ty,pos,af,none⟩::rest).toArray false) y)) (ac:fn.ntmps=N) (hn:o7 args.length N=true)
 (ai:∀ (C:Frame) (cs:List Frame),C.mode=u→(recoverD (C::cs)=some (v,{C with mode:=G} ::cs))∨(recoverD (C::cs)=none∧v= .nilIface∧G=u))
 (h:fz P ⟨N,[],[],none⟩ (⟨some d,.call ⟨.builtin .recover,#[],#[]⟩,ty,pos,af,none⟩::rest).toArray (nj (fun σ w=>eG P ⟨N,[],[],none⟩ y (fin P fn ⟨N,[],[],none⟩ fun _ w=>R w) σ w)<|fin P fn ⟨N,[],[],none⟩ fun _ w=>R w) rest (ea (nY args) d v) w):
 CallsD P f args.toArray u w fun e I w'=> ∃ v,e= .returned v∧I=G∧R w':=by
 subst ac;refine callsD_of_wpS ah ae ?_;intro C cs hu;rw [A3 fn args [] hn];refine wpS_seq<|wpS_region ?_;have aj:gZ (⟨some d,.call ⟨.builtin .recover,#[],#[]⟩,ty,pos,af,none⟩::rest).toArray.size=0::(List.range' 1 rest.length):=by
  rw [qM,db,List.range_eq_range',List.range'_succ]
 rw [aj];simp only [wpOpsS,QN,wv];rw [if_pos (kY _ rfl _)];have ak:(execOp (act ⟨fn.ntmps,[],[],none⟩<|nY args).eval ⟨some d,.call ⟨.builtin .recover,#[],#[]⟩,ty,pos,af,none⟩).run P w= .ok .recover w:=by
  rw [jM];simp [execOp,resolve,invoke,builtin]
 rw [ak];simp only;obtain ⟨J,O⟩:∃ J,J=({C with mode:=G} ::cs:List Frame):=⟨_,rfl⟩
 have ag:∀ X:Act→List Frame→Prop,X ((act ⟨fn.ntmps,[],[],none⟩<|nY args).put (some d) v) J→
  (match recoverD (C::cs) with
   | some (v,V)=>X ((act ⟨fn.ntmps,[],[],none⟩<|nY args).put (some d) v) V
   | none=>X ((act ⟨fn.ntmps,[],[],none⟩<|nY args).put (some d) .nilIface) (C::cs)):=by
  intro X aa;rcases ai C cs hu with h1 | ⟨h1,h2,h3⟩;rw [h1]; subst O; exact aa;rw [h1]; subst h2 h3;have :({C with mode:=G} :Frame)=C:=by subst hu; rfl
  rw [this] at O; subst O; exact aa
 refine ag (fun a V=>wpOpsS P _ _ _ a V w) ?_;rw [lD];refine aa2 ?_ _ _ _ ?_;rintro ⟨a,w,h⟩;simp only [Exit.thenS,bodyPostS] at h;obtain ⟨_,_,h,_⟩:=h; cases h;have h1:=wpOps_eq_wpList (P:=P) (ops:=(⟨some d,.call ⟨.builtin .recover,#[],#[]⟩,ty,pos,af,none⟩::rest).toArray) (Q:=fun e a w'=>Exit.thenS (Code.wpS P y (bodyPostS P fn C cs fun e I w'=> ∃ v,e= .returned v∧I=G∧R w')) (bodyPostS P fn C cs fun e I w'=> ∃ v,e= .returned v∧I=G∧R w') e a J w') rest 1 fun j=>by simp [Nat.add_comm]
 rw [h1];unfold fz at h;refine Z8 ?_ ES _ _ _ h;intro e a w' E;have ab:∀ (e:Exit) (σ:Nat→Value) (w':World),fin P fn ⟨fn.ntmps,[],[],none⟩ (fun _ w=>R w) e σ w'→bodyPostS P fn C cs (fun e I w'=> ∃ v,e= .returned v∧I=G∧R w') e (act ⟨fn.ntmps,[],[],none⟩ σ) J w':=by
  intro e σ w' A;cases e with
  | normal=>obtain ⟨v,Z,Y⟩:=A; exact ⟨rfl,G,O,v,Z,v,rfl,rfl,Y⟩
  | ret=>obtain ⟨v,Z,Y⟩:=A; exact ⟨rfl,G,O,v,Z,v,rfl,rfl,Y⟩
  | _=>exact A.elim
 cases e with
 | normal=>
   obtain ⟨σ,rfl,A⟩:=E;refine wpS_of_wp ?_;simp only [nj] at A;unfold eG at A;refine P3 ?_<|wpIn_wide.1 A;intro e a w' E;cases e with
   | panic c=>obtain ⟨σ,rfl,A⟩:=E; exact (A σ fun _ _=>rfl).elim
   | outgrown=>exact E.elim
   | _=>obtain ⟨σ,rfl,A⟩:=E; exact ab _ σ w' A
 | panic c=>obtain ⟨σ,rfl,A⟩:=E; exact (A σ fun _ _=>rfl).elim
 | outgrown=>exact E.elim
 | ret=>obtain ⟨σ,rfl,A⟩:=E; exact ab .ret σ w' A
 | exit i=>obtain ⟨σ,rfl,A⟩:=E; exact A.elim
 | goto i=>obtain ⟨σ,rfl,A⟩:=E; exact A.elim
section
variable {P:Program} {n:Nat} {F:List Nat} {σ:Nat→Value} {w:World} {fn:Func} {R:Value→World→Prop}
theorem Xk {g:FuncId} {A:Array Value} {M:World→Prop} (hu:(invoke (.fn (.func g) A) #[]).run P w= .ok (.enter g A) w)
 (E:CallsD P g A .returning w fun e G w'=> ∃ v,e= .returned v∧G= .returning∧M w') (C:∀ w',M w'→∃ v,(results fn (act ⟨n,[{target:= .fn (.func g) A,args:= #[]}],F,none⟩ σ).tmps).run P w'= .ok v w'∧R v w'):
 qb ⟨n,[{target:= .fn (.func g) A,args:= #[]}],F,none⟩ (rX P fn R) .ret σ w:=by
 refine leaves_cons (by simp) hu ?_;refine P2 E ?_;rintro e I w' ⟨v,rfl,rfl,hm⟩;obtain ⟨v2,h1,h2⟩:=C w' hm;exact ⟨v2,h1,v2,ag,h2⟩
theorem sj {g:FuncId} {A:Array Value} {M:World→Prop} {v:Value} (hu:(invoke (.fn (.func g) A) #[]).run P w= .ok (.enter g A) w)
 (E:CallsD P g A (.panicking [{v:=v,recovered:=false}]) w fun e G w'=> ∃ x,e= .returned x∧G= .panicking [{v:=v,recovered:=true}]∧M w') (C:∀ w',M w'→∃ v,(results fn (act ⟨n,[{target:= .fn (.func g) A,args:= #[]}],F,none⟩ σ).tmps).run P w'= .ok v w'∧R v w'):
 qb ⟨n,[{target:= .fn (.func g) A,args:= #[]}],F,none⟩ (rX P fn R) (.panic [{v:=v,recovered:=false}]) σ w:=by
 refine leaves_cons (by simp) hu ?_;refine P2 E ?_;rintro e I w' ⟨x,rfl,rfl,hm⟩;obtain ⟨v2,h1,h2⟩:=C w' hm;exact ⟨v2,h1,v2,ag,h2⟩
end
end Go.Hb
end
section
namespace Go.Hb
def nz (w:World) (B e n:Nat) (v:Value) (xs:List Value):Prop :=
 ∃ a cp,v= .slice a n cp∧n≤cp∧(xs= []∨∃ b o cur z,a=some ⟨b,o,none⟩∧B≤b∧w.heap[b]? =some (.cells cur e z)∧∀ (j:Nat) u,xs[j]? =some u→cur[o+j]? =some u)
theorem Tg.tgo {w:World} {B e n:Nat} {v:Value} {xs:List Value} (h:Tg w B e n v xs):nz w B e n v xs:=by
 obtain ⟨a,cp,rfl,G,A⟩:=h;refine ⟨a,cp,ag,G,A.imp id ?_⟩;rintro ⟨b,cur,z,C,E,I,A⟩;exact ⟨b,0,cur,z,C,E,I,fun j u hu=>by rw [Nat.zero_add]; exact A j u hu⟩
theorem nz.cells {w:World} {B e n cp:Nat} {a:Option Addr} {xs:List Value} (h:nz w B e n (.slice a n cp) xs):n≤cp∧aR w.heap a xs:=by
 obtain ⟨I,J,G,C,A⟩:=h;cases G;rcases A with h | ⟨b,o,cur,z,rfl,_,E,A⟩
 · subst h; exact ⟨C,aR.nil _ _⟩
 · refine ⟨C,fun _=>rfl,fun j u hu=> ?_⟩;show Hb.a7 w.heap b (o+j)=_;rw [bo E]; exact A j u hu
theorem nz.slice {w:World} {B e n:Nat} {v:Value} {xs:List Value} (h:nz w B e n v xs):∃ a cp,v= .slice a n cp:=let ⟨a,cp,hv,_⟩:=h; ⟨a,cp,hv⟩
theorem nz.md {F:Nat→Prop} {w w':World} {B e n:Nat} {v:Value} {xs:List Value} (h:nz w B e n v xs) (hm:Md F w w') (E:∀ k,F k→∀ cur z,w.heap[k]?≠some (.cells cur e z)):nz w' B e n v xs:=by
 obtain ⟨a,cp,rfl,C,h | ⟨b,o,cur,z,rfl,G,A,I⟩⟩:=h
 · exact ⟨a,cp,ag,C,.inl h⟩
 · exact ⟨_,cp,ag,C,.inr ⟨b,o,cur,z,ag,G,by rw [hm.dJ b (dT.1 A).1 (fun hk=>E b hk cur z A)]; exact A,I⟩⟩
theorem nz.q8 {w:World} {B e n m cp:Nat} {a:Option Addr} {xs:List Value} (h:nz w B e (n+1) (.slice a (n+1) cp) xs) (I:xs.length=(n+1)*m):nz w B e n (.slice (fR a cp 1 m) n<|cp - 1) (xs.drop m):=by
 obtain ⟨O,V,G,Y,E⟩:=h;cases G;refine ⟨_,_,ag,aj,?_⟩;rcases E with rfl | ⟨b,o,cur,z,rfl,A,C,J⟩
 · exact .inl<|by simp
 · unfold fR;by_cases h1:cp=1
   · refine .inl<|fY ?_;obtain rfl :n=0:=aj;rw [fM,I]; omega
   · rw [if_neg h1];refine .inr ⟨b,o+1 *m,cur,z,?_,A,C,fun j u hu=> ?_⟩
     · rw [lX,nA]
     · rw [List.getElem?_drop] at hu;have :=J _ u hu;rw [show o+1 *m+j=o+(m+j) from by omega]; exact this
def eU (w:World) (B e:Nat) (vs:List Value) (A:List (List Nat)):Prop :=vs.length=A.length∧∀ (i:Nat) v l,vs[i]? =some v→A[i]? =some l→Tg w B e l.length v (l.map bA)
theorem eU.nil (w:World) (B e:Nat):eU w B e [] []:=⟨rfl,fun i v l A=>by simp at A⟩
theorem eU.md {F:Nat→Prop} {w w':World} {B e:Nat} {vs:List Value} {A:List (List Nat)} (h:eU w B e vs A) (hm:Md F w w') (C:∀ k,F k→∀ cur z,w.heap[k]?≠some (.cells cur e z)):eU w' B e vs A:=⟨h.1,fun i v l h1 h2=>(h.2 i v l h1 h2).md hm C⟩
theorem eU.wk {w w':World} {B e:Nat} {vs:List Value} {A:List (List Nat)} (h:eU w B e vs A) (hm:Wk w w'):eU w' B e vs A:=h.md hm fun _ hk=>hk.elim
theorem eU.mono {w:World} {B B' e:Nat} {vs:List Value} {A:List (List Nat)} (h:eU w B e vs A) (C:B'≤B):eU w B' e vs A:=⟨h.1,fun i v l h1 h2=>(h.2 i v l h1 h2).mono C⟩
theorem eU.snoc {w:World} {B e:Nat} {vs:List Value} {C:List (List Nat)} {v:Value} {l:List Nat} (A:eU w B e vs C) (G:Tg w B e l.length v (l.map bA)):eU w B e (vs++ [v]) (C++ [l]):=by
 refine ⟨by rw [bP,bP,A.1]; rfl,fun i I J h1 h2=> ?_⟩;have E:=A.1;by_cases hi:i < vs.length
 · rw [nq hi] at h1;rw [nq aj] at h2;exact A.2 i I J h1 h2
 · rw [oh aj] at h1;rw [oh aj,← E] at h2;cases hj:i - vs.length with
   | zero=>rw [hj] at h1 h2; cases h1; cases h2; exact G
   | succ j=>rw [hj] at h1; simp at h1
def j0 (t ln:Nat) (e:Int):List PanicEntry:= [{v:= .iface t (.agg [.int .i64 1,.int .i64 (ln:Nat),.int .i64 e].toArray),recovered:=false}]
theorem e5 {h:World} {b:Nat} {isK:Value→Prop} {f:Value→Option Value} (hm:dq h.heap b isK f):tag h b=1:=let ⟨_,h1,_⟩:=hm; Bn h1
def Wr (L:List Nat) (ms mt mc B:Nat) (w:World) (k:Nat):Prop :=B≤k∧(k=ms∨k=mt∨k=mc∨L.contains (tag w k)=true)
abbrev Mw (L:List Nat) (ms mt mc B:Nat) (w w':World):Prop :=Md (Wr L ms mt mc B w) w w'
section
variable {L:List Nat} {ms mt mc B:Nat} {w w' w'':World}
theorem Mw.trans (h:Mw L ms mt mc B w w') (A:Mw L ms mt mc B w' w''):Mw L ms mt mc B w w'':=by
 refine Md.trans' h A fun k hk hw=> ?_;refine Classical.byContradiction fun hn=> ?_;have :=Md.tag h hk hn;unfold Wr at hw;rw [this] at hw;exact hn hw
theorem Wk.mw (h:Wk w w'):Mw L ms mt mc B w w':=h.mono fun _ _ A=>A.elim
theorem Mw.of {F:Nat→Prop} (h:Md F w w') (E:TF w L F) (C:∀ k,F k→B≤k):Mw L ms mt mc B w w':=h.mono fun k _ A=>⟨C k A,.inr<|.inr<|.inr<|E k A⟩
theorem Mw.wk {w0:World} (A:Wk w0 w) (h:Mw L ms mt mc B w w') (C:w0.heap.size≤B):Wk w0 w':=Md.trans' A h fun k hk hw=>by have :=hw.1; omega
theorem Wr.ne (hs:tag w ms=1) (I:tag w mt=1) (G:tag w mc=1) {e:Nat} (E:L.contains (e+2)=false):∀ k,Wr L ms mt mc B w k→∀ cur z,w.heap[k]?≠some (.cells cur e z):=by
 rintro k ⟨_,rfl | rfl | rfl | h⟩ cur z C <;> have A:=dS C
 · omega
 · omega
 · omega
 · rw [A,E] at h; cases h
end
end Go.Hb
end
section
namespace Go.Hb
section
variable {P:Program} {N:Fm} {σ:Nat→Value} {w:World} {dst:Option Nat} {ty:TypeId} {pos :String} {af:Array Edge} {g:Option (Nat×Bool)} {x y:Operand}
theorem Xb (d:Nat) {t e:TypeId} {a:Option Addr} {n c:Nat} (hu:P.underlying t=some (.slice e)):(Op.equalIn (d+1) t (.slice a n c)<|.slice none 0 0).run P w= .ok a.isNone w:=by
 cases a <;> simp [Op.equalIn,ep hu]
theorem Xc {t e:TypeId} {a:Option Addr} {n c:Nat} (hu:P.underlying t=some (.slice e)):(Op.equal t (.slice a n c)<|.slice none 0 0).run P w= .ok a.isNone w:=Xb 9999 hu
theorem sh {t E e:TypeId} {a:Option Addr} {n c:Nat} (hu:P.underlying t=some (.slice e)) (A:ev N σ x= .slice a n c) (C:ev N σ y= .slice none 0 0):
 (execOp (ev N σ) ⟨dst,.binOp .eql t x y E,ty,pos,af,g⟩).run P w= .ok (.value<|.bool a.isNone) w:=by
 have h:(binOp .eql t (.slice a n c)<|.slice none 0 0).run P w= .ok (.bool a.isNone) w:=by
  simp only [binOp]; simp [Xc hu]
 simp [execOp,A,C,eqGuard,h]
end
def Rd (h:Array Obj) (v:Value) (n size:Nat) (xs:List Value):Prop := ∃ a c,v= .slice a n c∧aR h a xs∧xs.length=n*size∧(a=none→n=0)
theorem Rd.kj {w:World} {B e size n:Nat} {v:Value} {xs:List Value} (h:w.ownsRow B e size v n xs):Rd w.heap v n size xs:=by
 obtain ⟨a,c,rfl,h1,_,_,h3⟩:=vF h;refine ⟨a,c,ag,h1,h.1,fun A=> ?_⟩;subst A;rcases h.2 with ⟨h4,h5⟩ | ⟨g,cap,cur,h4,_⟩
 · exact h5
 · simp at h4
theorem Fw {w:World} {B e size n k cp:Nat} {a:Option Addr} {xs:List Value} (h:w.ownsRow B e size (.slice a n cp) n xs) (hk:k≤n) (G:a≠none):w.ownsRow B e size (.slice a k cp) k (xs.take<|k*size):=by
 obtain ⟨A,h⟩:=h;refine ⟨by rw [dM,A]; exact qN (qO _ hk),?_⟩;rcases h with ⟨h1,_⟩ | ⟨g,cap,cur,h1,h2,h3,h4,h5,C,E⟩
 · simp only [og] at h1; exact absurd h1.1 G
 · simp only [og,true_and] at h1;obtain ⟨rfl,rfl⟩:=h1;refine .inr ⟨g,_,cur,ag,h2,h3,aj,h5,C,?_⟩;rw [← E,Q2,qN (qO _ hk)]
section
variable {P:Program} {N:Fm} {σ:Nat→Value} {w:World} {dst:Option Nat} {ty:TypeId} {pos :String} {af:Array Edge} {g:Option (Nat×Bool)} {x y z u:Operand} {K:(Nat→Value)→World→Prop}
theorem sl3 {t n len cap:Nat} {a:Option Addr} {k k' G:IntKind} {i j m:Nat} (he:ib P t=some n) (A:ev N σ x= .slice a len cap) (C:ev N σ y= .int k (i:Nat)) (E:ev N σ z= .int k' (j:Nat)) (hu:ev N σ u= .int G (m:Nat)) (h:i≤j∧j≤m∧m≤cap):
 (execOp (ev N σ) ⟨dst,.slice t x (some y) (some z) (some u),ty,pos,af,g⟩).run P w= .ok (.value<|.slice (fR a m i n) (j - i)<|m - i) w:=by
 have h1:(0:Int)≤(i:Int):=aj;have h2:(0:Int)≤(j:Int):=aj;have h3:(0:Int)≤(m:Int):=aj;unfold ib at he;cases hd:P.underlying t with
 | none=>rw [hd] at he; cases he
 | some d=>
   rw [hd] at he;cases d <;> first | (cases he; done) | skip
   rename_i e;cases hi':P.info? e with
   | none=>simp [hi'] at he
   | some q=>
     simp only [hi',lX,gM] at he;subst he;simp only [execOp,ui,Instr.slice,A,C,E,hu,lX,qG,Instr.sliceBound,asIntOf];simp [ep hd,jH hi',sizeOf,h.1,h.2.1,h.2.2,fR]
theorem RT {t e size bytes B n m cp c A:Nat} {xs news:List Value} {a:Option Addr} (aa:gz P t e size bytes=true) (O:w.ownsRow B e size (.slice (some ⟨A,0,none⟩) n cp) n xs) (ab:ev N σ x= .slice (some ⟨A,0,none⟩) n cp)
 (ac:ev N σ y= .slice a m c) (G:aR w.heap a news) (I:a≠none) (J:news.length=m*size) (h1:news.all Value.oneCell'=true) (Z:n+m≤cp)
 (k:∀ w',Md (fun q=>q=A) w w'→w'.ownsRow B e size (.slice (some ⟨A,0,none⟩) (n+m) cp) (n+m) (xs++news)→K (gK σ dst<|.slice (some ⟨A,0,none⟩) (n+m) cp) w'):
 dW P N ⟨dst,.call ⟨.builtin .append,#[x,y],#[t,t]⟩,ty,pos,af,g⟩ σ w K:=by
 obtain ⟨hu,i,zv,hi,ah,hs,ae,ai,ag⟩:=sN aa;obtain ⟨ad,rfl⟩:∃ ad,a=some ad:=by cases a with | none=>exact absurd rfl I | some ad=>exact ⟨ad,rfl⟩
 have hn:∀ j v,news[j]? =some v→w.cell? (ad.add j)=some v:=fun j v C=>by
  have E:news≠[]:=fun e=>by rw [e] at C; simp at C
  have h2:=G.ok E;simp only [gM] at h2;rw [h2,nA,pA]; exact G.a7 j v C
 obtain ⟨w',Y,h2,h3⟩:=Go.run_append_fits (P:=P) (w:=w) B t ty e i size hu hi hs A n cp xs O ad m c news J hn (xe h1) Z;refine np (w':=w') (v:= .slice (some ⟨A,0,none⟩) (n+m) cp) ?_<|k w' ⟨h3.os,h3.output,h3.size,fun q V E=>h3.block q V fun e=>E<|wS e⟩ h2;simp [execOp,resolve,invoke,builtin,ab,ac,Y]
end
end Go.Hb
end
section
namespace Go.Hb
def r5 (P:Program) (t:TypeId):Option (Nat×Nat):=
 match P.underlying t with
 | some (.array n e)=>(P.info? e).map fun i=>(n,i.size)
 | _=>none
section
variable {P:Program} {N:Fm} {σ:Nat→Value} {w:World} {dst:Option Nat} {ty:TypeId} {pos :String} {af:Array Edge} {g:Option (Nat×Bool)} {x y:Operand}
theorem kT {t n C b off :Nat} {k:IntKind} {i:Int} (he:r5 P t=some (n,C)) (E:ev N σ x= .pointer (some ⟨b,off,none⟩)) (G:ev N σ y= .int k i) (A:0≤i∧i < n):
 (execOp (ev N σ) ⟨dst,.indexAddr t x y,ty,pos,af,g⟩).run P w= .ok (.value<|.pointer<|some ⟨b,off+i.toNat*C,none⟩) w:=by
 unfold r5 at he;cases hd:P.underlying t with
 | none=>rw [hd] at he; cases he
 | some d=>
   rw [hd] at he;cases d <;> first | (cases he; done) | skip
   rename_i m e;cases hi:P.info? e with
   | none=>simp [hi] at he
   | some j=>
     simp only [hi,lX,gM,uz] at he;obtain ⟨rfl,rfl⟩:=he;simp [execOp,Instr.indexAt,sY,E,G,asIntOf,ep hd,A.1,A.2,sizeOf,jH hi,nA]
end
theorem aaq {h:Array Obj} {b:Nat} {a:List UInt8} (A:bX h b (marksOf a)) (c:UInt8):Hb.a7 h b (0 +((c.toNat:Nat):Int).toNat*1)=some (.bool<|decide (c∈a)):=by
 rw [A.a7,show 0 +((c.toNat:Nat):Int).toNat*1=c.toNat from by omega]; exact aan a c
theorem aar {h:Array Obj} {b:Nat} {a:List UInt8} {c:UInt8} (A:bX h b ((marksOf a).set (0 +((c.toNat:Nat):Int).toNat*1)<|.bool true)):bX h b (marksOf<|a++ [c]):=by
 rw [show 0 +((c.toNat:Nat):Int).toNat*1=c.toNat from by omega,aap] at A; exact A
end Go.Hb
end
section
namespace Go.Hb
theorem ZA (c:UInt8):∀ l:List UInt8,Qh l c=fP c l:=by
 intro l
 induction l with
 | nil=>rfl
 | cons b l G=>
   unfold Qh;rw [G];rw [show fP c (b::l)=if (b::l).idxOf c < (b::l).length then ((b::l).idxOf c:Int) else -1 from rfl,List.idxOf_cons];by_cases h:(b==c)=true
   · rw [if_pos h,h]; rfl
   · have C:(b==c)=false :=by simpa using h
     rw [if_neg h,C];simp only [cond_false,db];by_cases h1:l.idxOf c < l.length
     · have A:fP c l=l.idxOf c:=if_pos h1;rw [A,if_neg (fun E=>by have :=eq_of_beq E; omega),if_pos aj]; rfl
     · have A:fP c l= -1:=if_neg h1;rw [A,if_pos aM,if_neg aj]
theorem acm {P:Program} {f:FuncId} {fn:Func} (C:P.funcs[f]? =some fn) (E:(fn.name== "runtime.NumGoroutine")=false) (A:fn.body.isNone=true) (hn:P9 fn=none)
 (he:P8 fn=some aeP) (l:List UInt8) (c:UInt8) (w:World):(callFunc f #[str l,.int .u8 c.toNat]).run P w= .ok (.value<|.int .i64<|fP c l) w:=by
 rw [run_callFunc_extern C E A hn he];unfold str;rw [Lib.run_indexByteString];have h1:((c.toNat:Int)).toNat.toUInt8=c:=lA.1<|by simp
 rw [h1,ZA];rfl
theorem ack {P:Program} {f:FuncId} {fn:Func} (C:P.funcs[f]? =some fn) (E:(fn.name== "runtime.NumGoroutine")=false) (A:fn.body.isNone=true) (hn:P9 fn=none)
 (he:P8 fn=some aeO) (l:List UInt8) (c:UInt8) (w:World):(callFunc f #[str l,.int .u8 c.toNat]).run P w= .ok (.value<|.int .i64 (l.count c:Nat)) w:=by
 rw [run_callFunc_extern C E A hn he];unfold str;rw [Lib.run_countString];have h1:((c.toNat:Int)).toNat.toUInt8=c:=lA.1<|by simp
 rw [h1];rfl
section
variable {P:Program} {N:Fm} {σ:Nat→Value} {w:World} {dst:Option Nat} {ty:TypeId} {pos :String} {af:Array Edge} {g:Option (Nat×Bool)}
theorem Jy {f:FuncId} {a b v:Value} {args:Array Operand} {A:Array TypeId} (h:(callFunc f #[a,b]).run P w= .ok (.value v) w) (C:args.toList.map (ev N σ)= [a,b]):
 (execOp (ev N σ) ⟨dst,.call ⟨.value (.func f),args,A⟩,ty,pos,af,g⟩).run P w= .ok (.value v) w:=by
 have :args.map (ev N σ)= #[a,b]:=by rw [← BO,oc,C]
 simp [execOp,resolve,ev,sX,invoke,this,h]
end
end Go.Hb
end
section
namespace Go.Hb
theorem acx {L:List Value} {o:Nat} {v:Value} (h:o < L.length):(L.set o v).take (o+1)=L.take o++ [v]:=by
 rw [List.set_eq_take_append_cons_drop,if_pos h,uw,dM,qN aj,Nat.add_sub_cancel_left,eK (by rw [dM]; omega)];rfl
theorem acw {L:List Value} {o m:Nat} {v:Value} (h:o < m):(L.set o v).drop m=L.drop m:=by
 rw [List.drop_set,if_pos h]
theorem Oq (b e:Nat):∀ (vs:List Value) (o:Nat) (L:List Value) (w:World),w.heap[b]? =some (.cells L.toArray e (0,0))→o+vs.length≤L.length→
 (w.setCells b o vs).heap[b]? =some (.cells (L.take o++vs++L.drop (o+vs.length)).toArray e (0,0))∧Md (fun k=>k=b) w (w.setCells b o vs):=by
 intro vs
 induction vs with
 | nil=>intro o L w A _; exact ⟨by simpa [World.setCells] using A,Md.refl _ _⟩
 | cons v r J=>
   intro o L w A E;simp only [db] at E;have h1:(w.setCell ⟨b,o,none⟩ v).heap[b]? =some (.cells (L.set o v).toArray e (0,0)):=by
    have G:=(dT.1 A).1;have I:w.heap[b]= .cells L.toArray e (0,0):=(dT.1 A).2;simp only [B3];rw [Array.getElem?_eq_getElem (by simpa using G),Array.getElem_modify];simp [I,List.setIfInBounds_toArray]
   have C:Md (fun k=>k=b) w (w.setCell ⟨b,o,none⟩ v):=⟨rfl,rfl,by simp [B3],fun k _ hk=>Below.heap_setCell w _ v k hk⟩
   obtain ⟨h2,h3⟩:=J (o+1) (L.set o v) _ h1<|by rw [List.length_set]; omega
   refine ⟨?_,Md.trans C h3⟩;show ((w.setCell ⟨b,o,none⟩ v).setCells b (o+1) r).heap[b]? =_;rw [h2,acx aj,acw aj,db,show o+1 +r.length=o+(r.length+1) from by omega];simp
section
variable {P:Program} {N:Fm} {σ:Nat→Value} {w:World} {ty:TypeId} {pos :String} {af:Array Edge} {g:Option (Nat×Bool)} {x:Operand} {K:(Nat→Value)→World→Prop}
theorem Jt {t e B n k cp G m:Nat} {a:Option Addr} {xs:List Value} {z:Value} (ak:P.underlying t=some (.slice e)) (am:zeroV P e=some z) (h1:z.oneCell'=true) (ab:w.ownsRow B e 1 (.slice a n cp) n xs)
 (I:ev N σ x= .slice (fR a cp k 1) m G) (hm:m=n - k) (hk:k < n) (an:∀ w',Md (fun q=>(cg a n cp).ownBlock=some q) w w'→w'.ownsRow B e 1 (.slice a n cp) n (xs.take k++kZ (n - k) z)→K σ w'):
 dW P N ⟨none,.call ⟨.builtin .clear,#[x],#[t]⟩,ty,pos,af,g⟩ σ w K:=by
 obtain ⟨O,h⟩:=ab;subst hm;rcases h with ⟨h,rfl⟩ | ⟨A,ao,cur,h,V,Z,hle,Y,ai,al⟩
 · omega
 · simp only [og,true_and] at h;obtain ⟨rfl,rfl⟩:=h;have ah:fR (some ⟨A,0,none⟩) cp k 1=some ⟨A,k,none⟩:=by
    unfold fR; rw [if_neg aj]; simp [nA]
   rw [ah] at I;have E:w.heap[A]? =some (.cells cur.toList.toArray e (0,0)):=by simpa using Z
   have C:cur.toList.length=cp*1:=by rw [yw]; exact ai
   have ae:=Qi (P:=P) w t e ty z ak (fun w=>yv am w) (by cases z <;> first | rfl | (cases h1; done)) h1 A k (n - k) G aj
    (fun j aa=>by rw [pA,bo E]; simp; omega) (fun j aa=>by simp only [Qu,show w.heap[A]? =_ from E]; simp)
   obtain ⟨h2,h3⟩:=Oq A e (kZ (n - k) z) k cur.toList w E<|by rw [qa,C]; omega
   refine np (w':=w.setCells A k<|kZ (n - k) z) (v:= .tuple #[]) ?_ (an _ (h3.mono fun q _ ac=>by subst ac; rfl) ⟨?_,.inr ⟨A,cp,_,ag,V,h2,hle,Y,?_,?_⟩⟩)
   · simp [execOp,resolve,invoke,builtin,I,ae]
   · rw [bP,dM,qa,O]; omega
   · simp only [qM,bP,dM,fM,qa,C]; omega
   · rw [qa,nu];have J:(cur.toList.take k++kZ (n - k) z++cur.toList.drop (k+(n - k))).toArray.toList=(cur.toList.take k++kZ (n - k) z)++cur.toList.drop (k+(n - k)):=rfl;rw [J,uw,bP,dM,qa,C,qN aj,show n - (k+(n - k))=0 by omega,oq,eJ,eK (by rw [bP,dM,qa,C]; omega)];rw [← al,Q2,nu,qN aj]
theorem U5 {t e B n cp G m:Nat} {a:Option Addr} {xs:List Value} {z:Value} (al:P.underlying t=some (.slice e)) (an:zeroV P e=some z) (h1:z.oneCell'=true) (ac:w.ownsRow B e 1 (.slice a n cp) n xs) (Y:a≠none)
 (I:ev N σ x= .slice (fR a cp n 1) m G) (hm:0 < m∧n+m≤cp) (ao:∀ w',Md (fun q=>(cg a n cp).ownBlock=some q) w w'→w'.ownsRow B e 1 (.slice a n cp) n xs→K σ w'):
 dW P N ⟨none,.call ⟨.builtin .clear,#[x],#[t]⟩,ty,pos,af,g⟩ σ w K:=by
 obtain ⟨O,h⟩:=ac;rcases h with ⟨h,rfl⟩ | ⟨A,ap,cur,h,V,aa,hle,Z,ak,am⟩
 · simp only [og] at h; exact absurd h.1 Y
 · simp only [og,true_and] at h;obtain ⟨rfl,rfl⟩:=h;have ai:fR (some ⟨A,0,none⟩) cp n 1=some ⟨A,n,none⟩:=by
    unfold fR; rw [if_neg aj]; simp [nA]
   rw [ai] at I;have E:w.heap[A]? =some (.cells cur.toList.toArray e (0,0)):=by simpa using aa
   have C:cur.toList.length=cp*1:=by rw [yw]; exact ak
   have ah:=Qi (P:=P) w t e ty z al (fun w=>yv an w) (by cases z <;> first | rfl | (cases h1; done)) h1 A n m G hm.1
    (fun j ab=>by rw [pA,bo E]; simp; omega) (fun j ab=>by simp only [Qu,show w.heap[A]? =_ from E]; simp)
   obtain ⟨h2,h3⟩:=Oq A e (kZ m z) n cur.toList w E<|by rw [qa,C]; omega
   refine np (w':=w.setCells A n<|kZ m z) (v:= .tuple #[]) ?_ (ao _ (h3.mono fun q _ ae=>by subst ae; rfl) ⟨O,.inr ⟨A,cp,_,ag,V,h2,hle,Z,?_,?_⟩⟩)
   · simp [execOp,resolve,invoke,builtin,I,ah]
   · simp only [qM,bP,dM,fM,qa,C]; omega
   · rw [qa,nu];have J:(cur.toList.take n++kZ m z++cur.toList.drop (n+m)).toArray.toList=cur.toList.take n++(kZ m z++cur.toList.drop (n+m)):=e6 _ _ _;rw [J,uw,dM,C,qN aj,Nat.sub_self,oq,eJ,eK (by rw [dM]; omega),← am,nu]
end
end Go.Hb
end
section
namespace Go.Hb
def CB (P:Program) (t:TypeId):Option (List Value):=
 match P.info? t,P.underlying t with
 | some it,some (.array _ e)=>
   match it.zero,P.info? e with
   | some z,some ie=>if ie.size=1 then some z.cells.toList else none
   | _,_=>none
 | _,_=>none
def x9:List Value→List (Nat×Value)→Option (List Value)
 | A,[]=>some A
 | A,(i,v)::r=>if (v.oneCell' && iU i A.length)=true then x9 (A.set i v) r else none
theorem abC {A L:List Value} {ps:List (Nat×Value)} (h:x9 A ps=some L):od (fun i=>some (i*1,1)) A.toArray ps=some L.toArray:=by
 induction ps generalizing A with
 | nil=>simp only [x9,gM] at h; subst h; rfl
 | cons q r G=>
   obtain ⟨i,v⟩:=q;rw [x9] at h;split at h
   · rename_i C;simp only [iq] at C;have E:=qu C.1;have I:i < A.length:=td C.2;simp only [od,E,nu];rw [if_neg (by simp; omega)];have :=G h;simp only [nu] at this;rw [← this];simp
   · cases h
section
variable {P:Program} {N:Fm} {σ:Nat→Value} {w:World} {dst:Option Nat} {ty:TypeId} {pos :String} {af:Array Edge} {g:Option (Nat×Bool)}
theorem H9 {t:TypeId} {parts:Array (Nat×Operand)} {A L:List Value} {ps:List (Nat×Value)} (h:CB P t=some A) (hp:parts.toList.map (fun q=>(q.1,ev N σ q.2))=ps) (C:x9 A ps=some L):
 (execOp (ev N σ) ⟨dst,.build t parts,ty,pos,af,g⟩).run P w= .ok (.value<|.agg L.toArray) w:=by
 unfold CB at h;split at h
 · rename_i it n e hi hu;split at h
   · rename_i z I G he;split at h
     · rename_i hs;simp only [gM] at h;subst h;have E:P.built t (parts.map fun q=>(q.1,ev N σ q.2)).toList=some L.toArray:=by
        have :=abC C;simp only [BM] at this;simp only [Program.built,hi,hu,G,he,hs,oc,hp]; exact this
       simp [execOp,run_build w t _ _ E]
     · cases h
   · cases h
 · cases h
end
end Go.Hb
end
section
namespace Go.Hb
abbrev bE:Type :=Tx×List Nat
noncomputable def gF (F:aX) (row:List Tx):Except Nat bE:=
 if row.length≠1 then .error 111
 else if (bK<|row.getD 0 []).2.2.2≠0 then .error (bK<|row.getD 0 []).2.2.2
 else if hY (bK<|row.getD 0 []).1=false∨(bK<|row.getD 0 []).1= [] then .error 21
 else if 64 < (bK<|row.getD 0 []).1.length then .error 22
 else if (bK<|row.getD 0 []).2.2.1=false then .ok ((bK<|row.getD 0 []).1,[])
 else match gJ F.kind F.aliases (bK<|row.getD 0 []).2.1 with
  | .error e=> .error e
  | .ok set =>if set.all (e8 F)=true then .ok ((bK<|row.getD 0 []).1,set) else .error 120
section
variable {F:aX} {row:List Tx}
theorem Kr (h:row.length≠1):gF F row= .error 111:=if_pos h
theorem zP (h:row.length=1) (h1:(bK<|row.getD 0 []).2.2.2≠0):gF F row= .error (bK<|row.getD 0 []).2.2.2:=by
 unfold gF; rw [if_neg (fun h2=>h2 h),if_pos h1]
variable (h:row.length=1) (h1:(bK (row.getD 0 [])).2.2.2=0)
include h h1
theorem zQ (h2:hY (bK<|row.getD 0 []).1=false∨(bK<|row.getD 0 []).1= []):gF F row= .error 21:=by
 unfold gF; rw [if_neg (fun h2=>h2 h),if_neg (fun h2=>h2 h1),if_pos h2]
variable (h2:hY (bK (row.getD 0 [])).1=true) (h3:(bK (row.getD 0 [])).1≠[])
include h2 h3
omit h h1 in
theorem xp:¬(hY (bK<|row.getD 0 []).1=false∨(bK<|row.getD 0 []).1= []):=fun h=>h.elim (fun h=>by rw [h2] at h; cases h) h3
theorem Ks (h4:64 < (bK<|row.getD 0 []).1.length):gF F row= .error 22:=by
 unfold gF; rw [if_neg (fun h2=>h2 h),if_neg (fun h2=>h2 h1),if_neg (xp h2 h3),if_pos h4]
variable (h4:¬64 < (bK (row.getD 0 [])).1.length)
include h4
theorem Kt (h5:(bK<|row.getD 0 []).2.2.1=false):gF F row= .ok ((bK<|row.getD 0 []).1,[]):=by
 unfold gF; rw [if_neg (fun h2=>h2 h),if_neg (fun h2=>h2 h1),if_neg (xp h2 h3),if_neg h4,if_pos h5]
variable (h5:(bK (row.getD 0 [])).2.2.1=true)
include h5
theorem Ku {e:Nat} (A:gJ F.kind F.aliases (bK<|row.getD 0 []).2.1= .error e):gF F row= .error e:=by
 unfold gF; rw [if_neg (fun h2=>h2 h),if_neg (fun h2=>h2 h1),if_neg (xp h2 h3),if_neg h4,if_neg (by rw [h5]; exact eA),A]
theorem Kv {set :List Nat} {i:Nat} (A:gJ F.kind F.aliases (bK<|row.getD 0 []).2.1= .ok set) (hi:i < set.length) (C:e8 F (set.getD i 0)=false):gF F row= .error 120:=by
 unfold gF; rw [if_neg (fun h2=>h2 h),if_neg (fun h2=>h2 h1),if_neg (xp h2 h3),if_neg h4,if_neg (by rw [h5]; exact eA),A];exact if_neg<|by rw [HX 0 hi C]; exact eA
theorem DD {set :List Nat} (A:gJ F.kind F.aliases (bK<|row.getD 0 []).2.1= .ok set) (C:∀ i,i < set.length→e8 F (set.getD i 0)=true):gF F row= .ok ((bK<|row.getD 0 []).1,set):=by
 unfold gF; rw [if_neg (fun h2=>h2 h),if_neg (fun h2=>h2 h1),if_neg (xp h2 h3),if_neg h4,if_neg (by rw [h5]; exact eA),A];exact if_pos<|HY 0 C
end
noncomputable def fJ (F:aX) (eof:Nat):Nat→List Rw→Except (Nat×Nat) (List bE)
 | 0,[]=> .ok []
 | _+1,[]=> .error (eof,116)
 | 0,(ln,_)::_=> .error (ln,116)
 | n+1,(ln,row)::rows=>match gF F row with
   | .error e=> .error (ln,e)
   | .ok x=>match fJ F eof n rows with
     | .error e=> .error e
     | .ok r=> .ok (x::r)
noncomputable def fV (F:aX) (t:Tx):Except (Nat×Nat) (List bE):=
 if 65536 < t.length then .error (0,10)
 else match cx t with
  | []=> .error ((bU t).length+1,116)
  | (ln,row)::rows=>if row.length≠1 then .error (ln,111) else match fF (row.getD 0 []) 8192 with
    | .error e=> .error (ln,e)
    | .ok n=>fJ F ((bU t).length+1) n rows
def jx (F:aX) (eof:Nat) (T:Except (Nat×Nat) (List bE)) (xs:List bE) (n:Nat) (rows:List Rw):Prop :=
 T=match fJ F eof n rows with
  | .error e=> .error e
  | .ok r=> .ok<|xs++r
section
variable {F:aX} {eof n ln:Nat} {T:Except (Nat×Nat) (List bE)} {xs:List bE} {rows:List Rw} {row:List Tx}
theorem jx.start:jx F eof (fJ F eof n rows) [] n rows:=by
 unfold jx; cases fJ F eof n rows <;> rfl
theorem jx.done (h:jx F eof T xs 0 []):T= .ok xs:=by
 unfold jx at h; rw [fJ] at h; simpa using h
theorem jx.ends (h:jx F eof T xs n []) (hn:0 < n):T= .error (eof,116):=by
 obtain ⟨m,rfl⟩:∃ m,n=m+1:=⟨n - 1,aj⟩
 unfold jx at h; rw [fJ] at h; exact h
theorem jx.more (h:jx F eof T xs 0 ((ln,row)::rows)):T= .error (ln,116):=by
 unfold jx at h; rw [fJ] at h; exact h
theorem jx.bad {e:Nat} (h:jx F eof T xs n ((ln,row)::rows)) (hn:0 < n) (he:gF F row= .error e):T= .error (ln,e):=by
 obtain ⟨m,rfl⟩:∃ m,n=m+1:=⟨n - 1,aj⟩
 unfold jx at h; rw [fJ,he] at h; exact h
theorem jx.step {x:bE} (h:jx F eof T xs n ((ln,row)::rows)) (hn:0 < n) (he:gF F row= .ok x):jx F eof T (xs++ [x]) (n - 1) rows:=by
 obtain ⟨m,rfl⟩:∃ m,n=m+1:=⟨n - 1,aj⟩
 unfold jx at h ⊢; rw [fJ,he] at h;rw [h,ux];simp only;cases fJ F eof m rows <;> simp
end
section
variable {F:aX} {t:Tx}
theorem Kg (h:65536 < t.length):fV F t= .error (0,10):=if_pos h
theorem Kh (h:¬65536 < t.length) (h1:cx t= []):fV F t= .error ((bU t).length+1,116):=by
 unfold fV; rw [if_neg h,h1]
variable {ln:Nat} {row:List Tx} {rows:List Rw} (h:¬65536 < t.length) (h1:cx t=(ln,row)::rows)
include h h1
theorem Wy (h2:row.length≠1):fV F t= .error (ln,111):=by
 unfold fV; rw [if_neg h,h1]; exact if_pos h2
theorem WB (h2:row.length=1) {e:Nat} (h3:fF (row.getD 0 []) 8192= .error e):fV F t= .error (ln,e):=by
 unfold fV; rw [if_neg h,h1]; simp only; rw [if_neg (fun h=>h h2),h3]
theorem Kf (h2:row.length=1) {n:Nat} (h3:fF (row.getD 0 []) 8192= .ok n):fV F t=fJ F ((bU t).length+1) n rows:=by
 unfold fV; rw [if_neg h,h1]; simp only; rw [if_neg (fun h=>h h2),h3]
end
theorem Yg {α:Type} {a b:List α} {i:Nat} {d:α} (h:i < a.length):(a++b).getD i d=a.getD i d:=by
 rw [da,da,nq h]
def idxs (s:Tx) (xs:List bE):List Nat:=(gZ xs.length).filter fun i=>decide ((xs.getD i ([],[])).1=s)
theorem EC (s:Tx) (xs:List bE) (x:bE):idxs s (xs++ [x])=idxs s xs++(if x.1=s then [xs.length] else []):=by
 unfold idxs;rw [bP,fE,List.range_succ,List.filter_append];congr 1
 · refine List.filter_congr fun i hi=> ?_;have hi:i < xs.length:=by simpa using hi
   rw [Yg hi]
 · by_cases A:x.1=s <;> simp [List.filter,A]
theorem EB (s:Tx) (xs:List bE):(idxs s xs).length≤xs.length:=by
 unfold idxs; have :=o5 (fun i=>decide ((xs.getD i ([],[])).1=s)) (gZ xs.length); simpa using this
theorem WZ {F:aX} {eof:Nat} :∀ {n:Nat} {rows:List Rw} {r:List bE},fJ F eof n rows= .ok r→r.length=n∧rows.length=n:=by
 intro n
 induction n with
 | zero=>
   intro rows r h;cases rows with
   | nil=>rw [fJ] at h; cases h; exact ⟨rfl,rfl⟩
   | cons q rows=>rw [fJ] at h; cases h
 | succ n A=>
   intro rows r h;cases rows with
   | nil=>rw [fJ] at h; cases h
   | cons q rows=>
     rw [fJ] at h;split at h
     · cases h
     · split at h
       · cases h
       · rename_i h2;cases h;have :=A h2;simp only [db]; omega
end Go.Hb
end
section
namespace Go.Hb
section
variable {P:Program} {N:Fm} {σ:Nat→Value} {w:World} {dst:Option Nat} {ty:TypeId} {pos :String} {af:Array Edge} {g:Option (Nat×Bool)} {x:Operand}
theorem RY {t n C b:Nat} (he:r5 P t=some (n,C)) (A:ev N σ x= .pointer (some ⟨b,0,none⟩)):
 (execOp (ev N σ) ⟨dst,.slice t x none none none,ty,pos,af,g⟩).run P w= .ok (.value<|.slice (some ⟨b,0,none⟩) n n) w:=by
 unfold r5 at he;cases hd:P.underlying t with
 | none=>rw [hd] at he; cases he
 | some d=>
   rw [hd] at he;cases d <;> first | (cases he; done) | skip
   rename_i m e;cases hi:P.info? e with
   | none=>simp [hi] at he
   | some j=>
     simp only [hi,lX,gM,uz] at he;obtain ⟨rfl,rfl⟩:=he;simp [execOp,ui,sY,qG,A,ep hd,sizeOf,jH hi,nA]
def DO (P:Program) (t f:Nat):Option (Nat×Nat):=
 match P.underlying t with
 | some (.struct fs)=>(fs[f]?).map fun d=>(d.type,d.offset)
 | _=>none
theorem XD {t f C off n:Nat} {cs vs:List Value} (h:DO P t f=some (C,off)) (A:dN P C=some (some n)) (I:ev N σ x= .agg cs.toArray) (G:(cs.drop off).take n=vs):
 (execOp (ev N σ) ⟨dst,.field t x f,ty,pos,af,g⟩).run P w= .ok (.value<|.agg vs.toArray) w:=by
 subst G;unfold DO at h;cases hd:P.underlying t with
 | none=>rw [hd] at h; cases h
 | some d=>
   rw [hd] at h;cases d <;> first | (cases h; done) | skip
   rename_i fs;simp only [ou] at h;obtain ⟨fd,E,he⟩:=h;cases he;unfold dN at A;cases hd2:P.underlying fd.type with
   | none=>rw [hd2] at A; cases A
   | some d2=>
     rw [hd2] at A;cases hi:P.info? fd.type with
     | none=>simp [Qk,hi] at hd2
     | some i=>
       rw [hi] at A;have J:cs.toArray.extract fd.offset (fd.offset+n)=((cs.drop fd.offset).take n).toArray:=by simp
       cases d2 <;> first
        | (cases A; done)
        | (simp only [lX,gM] at A; subst A
           simp [execOp,Qc,ep hd,E,I,asAgg,part,isAgg,ep hd2,sizeOf,jH hi])
end
end Go.Hb
end
section
namespace Go.Hb
def pE:dD:=⟨0,0,false,0,0⟩
def iG (F:aX):dD:=F.bG.getD (F.bG.length - 1) pE
noncomputable def jO (F:aX) (ln:Nat) (row:List Tx):Except Nat aX:=
 if row.getD 0 []=fQ then (match ll ln row with | .error e=> .error e | .ok x=> .ok {F with dF:=F.dF++ [x]})
 else if row.getD 0 []=ff then (match k8 F.kind ln row with | .error e=> .error e | .ok x=> .ok {F with aliases:=F.aliases++ [x]})
 else match gy F.kind F.aliases (iG F) ln row with | .error e=> .error e | .ok x=> .ok {F with rules:=F.rules++ [x]}
noncomputable def iO (hd:List Tx) (eof:Nat):Nat→aX→List Rw→Except (Nat×Nat) (aX×List Rw)
 | 0,F,rows=> .ok (F,rows)
 | _+1,F,[]=> .error (eof,116)
 | n+1,F,(ln,row)::rows=>if row.take hd.length≠hd then .error (ln,116) else match jO F ln row with
   | .error e=> .error (ln,e)
   | .ok F'=>iO hd eof n F' rows
theorem Bo {row:List Tx} {k:Tx} (h:row≠[]):row.take [k].length= [k]↔row.getD 0 []=k:=by
 cases row with
 | nil=>exact absurd rfl h
 | cons a l=>simp
theorem Bp {row:List Tx} {k j:Tx} :row.take [k,j].length= [k,j]↔2≤row.length∧row.getD 0 []=k∧row.getD 1 []=j:=by
 match row with
 | []=>simp
 | [a]=>simp
 | a::b::l=>simp
section
variable {eof:Nat}
theorem Yp:∀ (n:Nat) (F:aX) (rows:List Rw),iO [fQ] eof n F rows=match group [fQ] ll eof n rows with | .error e=> .error e | .ok r=> .ok ({F with dF:=F.dF++r.1},r.2):=by
 intro n
 induction n with
 | zero=>intro F rows; simp [iO,group]
 | succ n E=>
   intro F rows;cases rows with
   | nil=>simp [iO,group]
   | cons q rows=>
     obtain ⟨ln,row⟩:=q;simp only [iO,group];by_cases A:row.take [fQ].length≠[fQ]
     · rw [if_pos A,if_pos A]
     · rw [if_neg A,if_neg A];have C:row.getD 0 []=fQ:=by
        refine (Bo ?_).1<|jT.1 A;rintro rfl; exact A<|by simp
       unfold jO;rw [if_pos C];cases ll ln row with
       | error e=>rfl
       | ok x=>
         simp only;rw [E];cases group [fQ] ll eof n rows with
         | error e=>rfl
         | ok r=>simp only [e6]; rfl
theorem Yo:∀ (n:Nat) (F:aX) (rows:List Rw),iO [ff] eof n F rows=match group [ff] (k8 F.kind) eof n rows with | .error e=> .error e | .ok r=> .ok ({F with aliases:=F.aliases++r.1},r.2):=by
 intro n
 induction n with
 | zero=>intro F rows; simp [iO,group]
 | succ n E=>
   intro F rows;cases rows with
   | nil=>simp [iO,group]
   | cons q rows=>
     obtain ⟨ln,row⟩:=q;simp only [iO,group];by_cases A:row.take [ff].length≠[ff]
     · rw [if_pos A,if_pos A]
     · rw [if_neg A,if_neg A];have C:row.getD 0 []=ff:=by
        refine (Bo ?_).1<|jT.1 A;rintro rfl; exact A<|by simp
       unfold jO;rw [if_neg (by rw [C]; decide),if_pos C];cases k8 F.kind ln row with
       | error e=>rfl
       | ok x=>
         simp only;rw [E];cases group [ff] (k8 F.kind) eof n rows with
         | error e=>rfl
         | ok r=>simp only [e6]; rfl
theorem Yq {A h1:Tx} (hk:A≠fQ) (G:A≠ff):∀ (n:Nat) (F:aX) (rows:List Rw),iO [A,h1] eof n F rows=match group [A,h1] (gy F.kind F.aliases<|iG F) eof n rows with | .error e=> .error e | .ok r=> .ok ({F with rules:=F.rules++r.1},r.2):=by
 intro n
 induction n with
 | zero=>intro F rows; simp [iO,group]
 | succ n I=>
   intro F rows;cases rows with
   | nil=>simp [iO,group]
   | cons q rows=>
     obtain ⟨ln,row⟩:=q;simp only [iO,group];by_cases C:row.take [A,h1].length≠[A,h1]
     · rw [if_pos C,if_pos C]
     · rw [if_neg C,if_neg C];have E:row.getD 0 []=A:=(Bp.1<|jT.1 C).2.1;unfold jO;rw [if_neg (by rw [E]; exact hk),if_neg (by rw [E]; exact G)];cases gy F.kind F.aliases (iG F) ln row with
       | error e=>rfl
       | ok x=>
         simp only;rw [I];show (match group [A,h1] (gy F.kind F.aliases<|iG F) eof n rows with | .error e=>_ | .ok r=>_)=_;cases group [A,h1] (gy F.kind F.aliases<|iG F) eof n rows with
         | error e=>rfl
         | ok r=>simp only [e6]; rfl
end
section
variable {hd:List Tx} {eof n ln:Nat} {F:aX} {row:List Tx} {rows:List Rw} {T:Except (Nat×Nat) (aX×List Rw)}
theorem Ym (h:iO hd eof n F []=T) (hn:0 < n):T= .error (eof,116):=by
 obtain ⟨m,rfl⟩:∃ m,n=m+1:=⟨n - 1,aj⟩
 exact h.symm
theorem En (h:iO hd eof n F ((ln,row)::rows)=T) (hn:0 < n) (A:row.take hd.length≠hd):T= .error (ln,116):=by
 obtain ⟨m,rfl⟩:∃ m,n=m+1:=⟨n - 1,aj⟩
 rw [← h,iO,if_pos A]
theorem Yk {e:Nat} (h:iO hd eof n F ((ln,row)::rows)=T) (hn:0 < n) (A:row.take hd.length=hd) (he:jO F ln row= .error e):T= .error (ln,e):=by
 obtain ⟨m,rfl⟩:∃ m,n=m+1:=⟨n - 1,aj⟩
 rw [← h,iO,if_neg (fun h2=>h2 A),he]
theorem Yn {F':aX} (h:iO hd eof n F ((ln,row)::rows)=T) (hn:0 < n) (A:row.take hd.length=hd) (he:jO F ln row= .ok F'):iO hd eof (n - 1) F' rows=T:=by
 obtain ⟨m,rfl⟩:∃ m,n=m+1:=⟨n - 1,aj⟩
 rw [← h,iO,if_neg (fun h2=>h2 A),he]; rfl
theorem Yl (h:iO hd eof 0 F rows=T):T= .ok (F,rows):=h.symm
end
def k9 (head:List Tx):List Tx:=if head.length=4 then [head.getD 0 [],head.getD 1 []] else [head.getD 0 []]
theorem Mb {head:List Tx} (h:head.length≠4):k9 head= [head.getD 0 []]:=if_neg h
theorem Mc {head:List Tx} (h:head.length=4):k9 head= [head.getD 0 [],head.getD 1 []]:=if_pos h
theorem YX {head row:List Tx} (h:row.getD 0 []≠head.getD 0 []):row.take (k9 head).length≠k9 head:=by
 unfold k9;split
 · exact fun h2=>h (Bp.1 h2).2.1
 · intro h2;cases row with
   | nil=>simp at h2
   | cons a l=>exact h<|(Bo<|by simp).1 h2
theorem Mf {head row:List Tx} (h4:head.length=4) (h:row.length < 2∨row.getD 1 []≠head.getD 1 []):row.take (k9 head).length≠k9 head:=by
 rw [Mc h4];intro h2;have :=Bp.1 h2;rcases h with h | h
 · omega
 · exact h this.2.2
theorem Mg {head row:List Tx} (A:row.getD 0 []=head.getD 0 []) (C:row≠[]) (h1:head.length=4→2≤row.length∧row.getD 1 []=head.getD 1 []):row.take (k9 head).length=k9 head:=by
 unfold k9;split
 · rename_i h4; exact Bp.2 ⟨(h1 h4).1,A,(h1 h4).2⟩
 · exact (Bo C).2 A
def ry (k:Tx):Int:=if k∈eF then (eF.idxOf k:Nat) else -1
theorem vI {k:Tx} :(0≤ry k)↔k∈eF:=by
 unfold ry; split
 · rename_i h; exact ⟨fun _=>h,fun _=>by omega⟩
 · rename_i h; exact ⟨fun h2=>by omega,fun h2=>absurd h2 h⟩
end Go.Hb
end
namespace Go.Hb
def pY (ps:List Tx) (w:Tx):Bool:=decide (ps.length≤w.length) && (gZ ps.length).all fun i=>di (ps.getD i [])<|w.getD i 0
def sg (ps:List Tx) (w:Tx):Bool:=decide (ps.length≤w.length) && pY ps (w.drop<|w.length - ps.length)
noncomputable def iz (r:dd) (w:Tx):Bool:=
 decide ((dE r.cond).2=0∧r.strip.length < w.length) &&
  (if r.kind=2 then decide (w.drop (w.length - r.strip.length)=r.strip) && sg (dE r.cond).1 w
   else if r.kind=1 then decide (w.take r.strip.length=r.strip) && pY (dE r.cond).1 w else false)
noncomputable def eO (r:dd) (w:Tx):Option Tx:=if iz r w=true then some (if r.kind=2 then w.take (w.length - r.strip.length)++r.add else r.add++w.drop r.strip.length) else none
def dU:dd:=⟨0,0,false,[],[],[],[],0⟩
def bq (F:aX) (fs:List Nat) (kind:Nat):List Nat:=(gZ F.rules.length).filter fun i=>decide ((F.rules.getD i dU).kind=kind∧(F.rules.getD i dU).flag∈fs)
def flagsOf (xs:List bE) (e:Int):List Nat:=if 0≤e∧e < xs.length then (xs.getD e.toNat ([],[])).2 else []
def cH (F:aX) (r:Int):List Nat:=if 0≤r∧r < F.rules.length then (F.rules.getD r.toNat dU).next else []
def tJ (F:aX) (xs:List bE) (e:Int) (k:Nat):Bool:=decide (F.sp.getD k 0≠0∧F.sp.getD k 0∈flagsOf xs e)
def pJ (F:aX) (r:Int):Bool:=decide (0≤r∧r < F.rules.length) && !decide (F.sp.getD 0 0≠0∧F.sp.getD 0 0∈cH F r)
structure bO where
 eZ:Tx
 dQ:Nat
 fst:Int
 snd:Int
 pre:Int
def mB (F:aX) (n:Int):Bool:=decide (n= -1) || (F.rules.getD n.toNat dU).eQ
def fK (F:aX) (xs:List bE) (e:Nat) (f s p:Int):Bool:=
 if f= -1 then decide (p≠ -1) || !tJ F xs e 0
 else if pJ F (if s= -1 then f else s)=false then false
 else decide (p= -1) || (mB F f && mB F s && mB F p)
def oE (F:aX) (xs:List bE) (e:Nat) (word:Tx) (f s:Int):List bO:=if fK F xs e f s (-1)=true then [⟨word,e,f,s,-1⟩] else []
noncomputable def nE (F:aX) (xs:List bE) (e:Nat) (word:Tx) (f s:Int) (p:Nat):Option bO:=if fK F xs e f s p=true then (eO (F.rules.getD p dU) word).map (fun v=>(⟨v,e,f,s,(p:Int)⟩:bO)) else none
noncomputable def iL (F:aX) (xs:List bE) (e:Nat) (word:Tx) (f s:Int):List bO:=oE F xs e word f s++(bq F (flagsOf xs e) 1).filterMap (nE F xs e word f s)
noncomputable def nZ (F:aX) (xs:List bE) (e:Nat) (w:Tx) (s:Int) (z:Nat):List bO:=match eO (F.rules.getD z dU) w with
 | none=> []
 | some v=>iL F xs e v s z
noncomputable def mh (F:aX) (xs:List bE) (e:Nat) (s:Nat):List bO:=match eO (F.rules.getD s dU) (xs.getD e ([],[])).1 with
 | none=> []
 | some w=>iL F xs e w s (-1)++(bq F (cH F s) 2).flatMap (nZ F xs e w s)
noncomputable def kg (F:aX) (xs:List bE) (e:Nat):List bO:=
 iL F xs e (xs.getD e ([],[])).1 (-1) (-1)++(bq F (flagsOf xs e) 2).flatMap (mh F xs e)
def kt (q:dd):Prop :=q.strip.length≤32∧q.add.length≤32∧q.cond.length≤4800
structure qS (F:aX):Prop where
 part:∀ (i:Nat) r,F.rules[i]? =some r→∃ c∈F.bG,c.first≤i∧i < c.first+c.count∧r.flag=c.flag∧r.kind=c.kind
 xo:∀ c∈F.bG,c.first+c.count≤F.rules.length∧∀ i,c.first≤i→i < c.first+c.count→∃ r,F.rules[i]? =some r∧r.flag=c.flag∧r.kind=c.kind
 uniq:(F.bG.map (·.flag)).Nodup
theorem LX {α:Type} {hd:List Tx} {rd:Nat→List Tx→Except Nat α} {eof:Nat} :∀ (n:Nat) (rows:List Rw) (r:List α×List Rw),group hd rd eof n rows= .ok r→∀ x∈r.1,∃ ln row,rd ln row= .ok x:=by
 intro n
 induction n with
 | zero=>intro rows r h; simp only [group,ud] at h; subst h; intro x A; cases A
 | succ n C=>
   intro rows r h;cases rows with
   | nil=>simp [group] at h
   | cons q rows=>
     obtain ⟨ln,row⟩:=q;simp only [group] at h;split at h
     · cases h
     · cases hr:rd ln row with
       | error e=>rw [hr] at h; cases h
       | ok y=>
         rw [hr] at h;simp only at h;cases hg:group hd rd eof n rows with
         | error e=>rw [hg] at h; cases h
         | ok E=>
           rw [hg] at h;simp only [ud] at h;subst h;intro x A;rcases eL.1 A with A | A
           · exact ⟨ln,row,by rw [A]; exact hr⟩
           · exact C rows E hg x A
theorem Mj {eof ln:Nat} {F F':aX} {hs:List Tx} {rows rows':List Rw} {row:List Tx} (A:cW eof F hs rows ln row= .ok (F',rows')):
 (F'.aliases=F.aliases∧F'.bG=F.bG∧F'.rules=F.rules)∨
 (F'.bG=F.bG∧F'.rules=F.rules∧∃ l,F'.aliases=F.aliases++l∧∀ x∈l,∃ kd s,lK kd s= .ok x)∨
 (F'.aliases=F.aliases∧∃ c l,F'.bG=F.bG++ [c]∧F'.rules=F.rules++l∧c.first=F.rules.length∧c.count=l.length∧e8 F c.flag=false∧∀ x∈l,∃ ln row,gy F.kind F.aliases c ln row= .ok x):=by
 unfold cW at A;split at A
 · unfold kF at A; split at A <;> cases A; exact .inl ⟨rfl,rfl,rfl⟩
 split at A
 · unfold kW at A;split at A
   · cases A
   · split at A <;> cases A; exact .inl ⟨rfl,rfl,rfl⟩
 split at A
 · unfold nb at A; split at A <;> cases A; exact .inl ⟨rfl,rfl,rfl⟩
 split at A
 · unfold nk at A; split at A <;> cases A; exact .inl ⟨rfl,rfl,rfl⟩
 split at A
 · unfold lj at A;split at A
   · cases A
   · split at A <;> cases A; exact .inl ⟨rfl,rfl,rfl⟩
 split at A
 · unfold kE at A;split at A
   · cases A
   · split at A <;> cases A; exact .inl ⟨rfl,rfl,rfl⟩
 split at A
 · unfold kn at A;split at A
   · cases A
   · split at A
     · cases A
     · split at A
       · cases A
       · rename_i r E;cases A;refine .inr<|.inl ⟨ag,ag,r.1,ag,fun x A=> ?_⟩;obtain ⟨ln,row,h⟩:=LX _ _ _ E x A;unfold k8 at h;split at h
         · cases h
         · exact ⟨_,_,h⟩
 · unfold iu at A;split at A
   · cases A
   · rename_i x C;split at A
     · cases A
     · split at A
       · cases A
       · split at A
         · cases A
         · split at A
           · cases A
           · rename_i r E;cases A;refine .inr<|.inr ⟨ag,_,r.1,ag,ag,ag,(xP _ _ _ E).2.1.symm,?_,fun x A=>LX _ _ _ E x A⟩;unfold iF at C;split at C
             · cases C
             · split at C
               · cases C
               · rename_i h; cases C; simpa using h
theorem Co {Q:aX→Prop} (C:Q jb) (G:∀ (eof ln:Nat) (F F':aX) (hs:List Tx) (rows rows':List Rw) (row:List Tx),Q F→cW eof F hs rows ln row= .ok (F',rows')→Q F') {s:Tx} {F:aX} (h:ga s= .ok F):Q F:=by
 unfold ga at h;split at h
 · cases h
 · split at h
   · cases h
   · rename_i f E;split at h
     · cases h
     · cases h;have key:∀ (k:Nat) (F F':aX) (hs:List Tx) (rows:List Rw) (eof:Nat),Q F→iH eof k F hs rows= .ok F'→Q F':=by
        intro k
        induction k with
        | zero=>intro F F' hs rows eof h A; rw [iH] at A; split at A <;> cases A; exact h
        | succ k J=>
          intro F F' hs rows eof h A;cases rows with
          | nil=>simp only [iH,ud] at A; exact A ▸ h
          | cons q rows=>
            rw [iH] at A;split at A
            · cases A
            · split at A
              · cases A
              · split at A
                · cases A
                · split at A
                  · cases A
                  · rename_i r I;exact J _ _ _ _ _ (G _ _ _ _ _ _ _ _ h I) A
       exact key _ _ _ _ _ _ C E
def l0 (l:List Nat):Prop :=l.Pairwise (· < ·)∧0∉l
theorem XZ {kind:Nat} {s:Tx} (A:(eD kind s).2=0):l0 (eD kind s).1:=by
 unfold eD at A ⊢;by_cases h1:s= []
 · rw [if_pos h1] at A; cases A
 · rw [if_neg h1] at A ⊢;by_cases h2:∃ x∈ec kind s,e9 kind x=0
   · rw [if_pos h2] at A; cases A
   · rw [if_neg h2] at A ⊢;by_cases h3:64 < (ec kind s).length
     · rw [if_pos h3] at A; cases A
     · rw [if_neg h3];refine ⟨Fj _,fun h4=> ?_⟩;rw [Fi,iT] at h4;exact h2 h4
theorem LG {kind:Nat} {s:Tx} {l:List Nat} (h:lK kind s= .ok l):l0 l:=by
 unfold lK at h;split at h
 · cases h
 · rename_i A;cases h;exact XZ<|jT.1 A
def uB (F:aX):Prop :=(∀ l∈F.aliases,l0 l)∧∀ q∈F.rules,l0 q.next∧kt q
theorem KV {w:Tx} (h:¬iy w≠0):w.length≤32:=by
 unfold iy at h;split at h
 · exact absurd aM h
 · split at h
   · exact absurd aM h
   · omega
theorem abt {b:Bool} {fd p:Tx} (h:eW b fd= .ok p):p.length≤32:=by
 unfold eW at h;split at h
 · cases h; exact iK _
 · split at h
   · cases h
   · split at h
     · cases h
     · split at h
       · cases h
       · rename_i A; cases h; exact KV A
theorem Rx {r:my} {p:Tx} (h:km r= .ok p):p.length≤32:=by
 unfold km at h;split at h
 · cases h
 · split at h
   · cases h; exact iK _
   · split at h
     · cases h
     · rename_i A; cases h; exact KV A
theorem JG (s:Tx):(dE s).1.length≤16:=by
 unfold dE;split
 · simp
 · split
   · simp
   · split
     · simp
     · split
       · simp
       · simp only; omega
theorem acC:∀ {ps:List Tx},ps.length≤16→(nf ps).length≤4800:=by
 have key:∀ ps:List Tx,(ps.flatMap fun t=>iR<|di t).length≤ps.length*300:=by
  intro ps
  induction ps with
  | nil=>exact iK _
  | cons t ps A=>
    have :=F5<|di t;rw [kI,bP,db]; omega
 intro ps h;unfold nf;split
 · simp
 · have :=key ps; omega
theorem Vu {row:List Tx} {c:Tx} (h:lH row= .ok c):c.length≤4800:=by
 unfold lH at h;split at h
 · split at h
   · cases h
   · split at h
     · cases h
     · cases h; exact acC<|JG _
 · cases h; simp
theorem xO:l0 []:=⟨.nil,wH⟩
theorem Lf {kind:Nat} {al:List (List Nat)} {s:Tx} {l:List Nat} (A:∀ l∈al,l0 l) (h:gJ kind al s= .ok l):l0 l:=by
 unfold gJ at h;split at h
 · exact LG h
 · split at h
   · cases h
   · split at h
     · cases h
     · cases h;rename_i n _ _;rw [da];cases hg:al[n - 1]? with
       | none=>exact xO
       | some x=>exact A x<|gL hg
theorem FY {kind ln:Nat} {al:List (List Nat)} {c:dD} {row:List Tx} {q:dd} (E:∀ l∈al,l0 l) (h:gy kind al c ln row= .ok q):(l0 q.next∧kt q)∧q.flag=c.flag∧q.kind=c.kind∧q.eQ=c.eQ:=by
 unfold gy at h;split at h
 · cases h
 · split at h
   · cases h
   · rename_i hp;split at h
     · cases h
     · rename_i C;split at h
       · cases h
       · rename_i nx A;split at h
         · cases h
         · rename_i G;cases h;refine ⟨⟨?_,abt hp,Rx C,Vu G⟩,ag,ag,ag⟩;unfold lO at A;split at A
           · split at A
             · cases A
             · exact Lf E A
           · cases A; exact xO
theorem DP {cs:List dD} {x:Nat} (h:(eB cs x).isSome=false):∀ c∈cs,c.flag≠x:=fun c A C=>by
 unfold eB at h;have h1:cs.find? (fun c=>decide (c.flag=x))=none:=by
  cases h2:cs.find? (fun c=>decide (c.flag=x)) with
  | none=>rfl
  | some y=>rw [h2] at h; cases h
 have :=List.find?_eq_none.1 h1 c A;simp [C] at this
theorem Cn {s:Tx} {F:aX} (h:ga s= .ok F):uB F∧qS F:=by
 refine Co (Q:=fun F=>uB F∧qS F) ⟨⟨fun l Z=>(by cases Z),fun l Z=>by cases Z⟩,⟨fun i r h=>(by cases h),fun c h=>(by cases h),.nil⟩⟩ ?_ h;rintro eof ln F F' hs rows rows' row ⟨E,G⟩ A;refine ⟨?_,?_⟩
 · rcases Mj A with ⟨h1,_,h3⟩ | ⟨_,h2,l,h3,h4⟩ | ⟨h1,c,l,_,h3,_,_,_,h4⟩
   · exact ⟨h1 ▸ E.1,h3 ▸ E.2⟩
   · refine ⟨fun x A=> ?_,h2 ▸ E.2⟩;rw [h3] at A;rcases gq.1 A with A | A
     · exact E.1 x A
     · obtain ⟨_,_,h⟩:=h4 x A; exact LG h
   · refine ⟨h1 ▸ E.1,fun x A=> ?_⟩;rw [h3] at A;rcases gq.1 A with A | A
     · exact E.2 x A
     · obtain ⟨_,_,h⟩:=h4 x A; exact (FY E.1 h).1
 · rcases Mj A with ⟨_,h2,h3⟩ | ⟨h2,h3,_⟩ | ⟨_,c,l,h2,h3,h4,h5,Y,ac⟩
   · exact ⟨by rw [h2,h3]; exact G.part,by rw [h2,h3]; exact G.xo,by rw [h2]; exact G.uniq⟩
   · exact ⟨by rw [h2,h3]; exact G.part,by rw [h2,h3]; exact G.xo,by rw [h2]; exact G.uniq⟩
   · have aa:∀ i,F.rules.length≤i→i < F.rules.length+l.length→∃ r,F'.rules[i]? =some r∧r.flag=c.flag∧r.kind=c.kind:=fun i I O=>by
      have C:i - F.rules.length < l.length:=aj;refine ⟨l[i - F.rules.length],?_,?_⟩
      · rw [h3,oh I,cz C]
      · obtain ⟨_,_,h⟩:=ac _ (List.getElem_mem C); exact ⟨(FY E.1 h).2.1,(FY E.1 h).2.2.1⟩
     refine ⟨fun i r I=> ?_,fun d hd=> ?_,?_⟩
     · by_cases O:i < F.rules.length
       · rw [h3,nq O] at I;obtain ⟨d,hd,C⟩:=G.part i r I;exact ⟨d,by rw [h2]; exact Cb _ hd,C⟩
       · have C:i < F.rules.length+l.length:=by
          have :=(fS.1 I).1; rw [h3,bP] at this; exact this
         obtain ⟨ai,J,V⟩:=aa i aj C;rw [I] at J; cases J;exact ⟨c,by rw [h2]; exact wz _ (gD.2 ag),aj,aj,V⟩
     · rw [h2] at hd;rcases gq.1 hd with hd | hd
       · obtain ⟨I,O⟩:=G.xo d hd;refine ⟨by rw [h3,bP]; omega,fun i C J=> ?_⟩;obtain ⟨r,V,ab⟩:=O i C J;exact ⟨r,by rw [h3,nq aj]; exact V,ab⟩
       · obtain rfl :=gD.1 hd;refine ⟨by rw [h3,bP]; omega,fun i C J=>aa i aj aj⟩
     · rw [h2,fZ,yS];refine ⟨G.uniq,by simp,fun a ae b ah=> ?_⟩;obtain ⟨d,hd,rfl⟩:=iT.1 ae;obtain rfl :b=c.flag:=by simpa using ah
       unfold e8 at Y;rw [oY] at Y;exact DP Y.2 d hd
theorem WR {F:aX} {row:List Tx} {x:bE} (A:uB F) (h:gF F row= .ok x):l0 x.2:=by
 unfold gF at h;split at h
 · cases h
 · split at h
   · cases h
   · split at h
     · cases h
     · split at h
       · cases h
       · split at h
         · cases h; exact xO
         · split at h
           · cases h
           · rename_i set hs;split at h
             · cases h; exact Lf A.1 hs
             · cases h
theorem WY {F:aX} (E:uB F) {eof:Nat} :∀ {n:Nat} {rows:List Rw} {r:List bE},fJ F eof n rows= .ok r→∀ x∈r,l0 x.2:=by
 intro n
 induction n with
 | zero=>
   intro rows r h;cases rows with
   | nil=>rw [fJ] at h; cases h; intro x A; cases A
   | cons q rows=>rw [fJ] at h; cases h
 | succ n G=>
   intro rows r h;cases rows with
   | nil=>rw [fJ] at h; cases h
   | cons q rows=>
     rw [fJ] at h;split at h
     · cases h
     · rename_i x A;split at h
       · cases h
       · rename_i h2;cases h;intro y C;rcases eL.1 C with rfl | C
         · exact WR E A
         · exact G h2 y C
theorem Wz {F:aX} (A:uB F) {t:Tx} {xs:List bE} (h:fV F t= .ok xs):∀ x∈xs,l0 x.2:=by
 unfold fV at h;split at h
 · cases h
 · split at h
   · cases h
   · split at h
     · cases h
     · split at h
       · cases h
       · exact WY A h
theorem WT {F:aX} {row:List Tx} {x:bE} (h:gF F row= .ok x):1≤x.1.length:=by
 unfold gF at h;split at h
 · cases h
 · split at h
   · cases h
   · split at h
     · cases h
     · rename_i C;have h1:1≤(bK<|row.getD 0 []).1.length:=by
        rcases Nat.eq_zero_or_pos (bK<|row.getD 0 []).1.length with A | A
        · exact absurd (Or.inr<|fY A) C
        · exact A
       split at h
       · cases h
       · split at h
         · cases h; exact h1
         · split at h
           · cases h
           · split at h
             · cases h; exact h1
             · cases h
theorem W4 {F:aX} {eof:Nat} :∀ {n:Nat} {rows:List Rw} {r:List bE},fJ F eof n rows= .ok r→∀ x∈r,1≤x.1.length:=by
 intro n
 induction n with
 | zero=>
   intro rows r h;cases rows with
   | nil=>rw [fJ] at h; cases h; intro x A; cases A
   | cons q rows=>rw [fJ] at h; cases h
 | succ n E=>
   intro rows r h;cases rows with
   | nil=>rw [fJ] at h; cases h
   | cons q rows=>
     rw [fJ] at h;split at h
     · cases h
     · rename_i x A;split at h
       · cases h
       · rename_i h2;cases h;intro y C;rcases eL.1 C with rfl | C
         · exact WT A
         · exact E h2 y C
theorem WC {F:aX} {t:Tx} {xs:List bE} (h:fV F t= .ok xs):∀ x∈xs,1≤x.1.length:=by
 unfold fV at h;split at h
 · cases h
 · split at h
   · cases h
   · split at h
     · cases h
     · split at h
       · cases h
       · exact W4 h
theorem oO {F:aX} {fs:List Nat} {k i:Nat} :i∈bq F fs k↔i < F.rules.length∧(F.rules.getD i dU).kind=k∧(F.rules.getD i dU).flag∈fs:=by
 unfold bq; simp
theorem E9 (F:aX) (fs:List Nat) (k:Nat):(bq F fs k).Pairwise (· < ·):=aeR _ QW
theorem vC (F:aX) (fs:List Nat) (k:Nat):(bq F fs k).length≤F.rules.length:=by
 unfold bq; have :=o5 (fun i=>decide ((F.rules.getD i dU).kind=k∧(F.rules.getD i dU).flag∈fs)) (gZ F.rules.length); simpa using this
def iw (F:aX) (k f:Nat):List Nat:=match eB F.bG f with
 | some c=>if c.kind=k then (gZ c.count).map (c.first+ ·) else []
 | none=> []
theorem KP {cs:List dD} {x:Nat} {c:dD} (h:eB cs x=some c):c∈cs∧c.flag=x:=⟨List.mem_of_find?_eq_some h,by simpa using List.find?_some h⟩
theorem Xw:∀ {cs:List dD},(cs.map (·.flag)).Nodup→∀ c∈cs,eB cs c.flag=some c:=by
 intro cs
 induction cs with
 | nil=>intro _ c h; cases h
 | cons d cs E=>
   intro h c A;rw [tc,Cd] at h;unfold eB;rw [List.find?_cons];rcases eL.1 A with rfl | A
   · simp
   · have C:¬d.flag=c.flag:=fun h2=>h.1<|iT.2 ⟨c,A,h2.symm⟩;rw [decide_eq_false C];exact E h.2 c A
theorem AE {F:aX} (A:qS F) {k f i:Nat} :i∈iw F k f↔i < F.rules.length∧(F.rules.getD i dU).kind=k∧(F.rules.getD i dU).flag=f:=by
 unfold iw;constructor
 · intro h;split at h
   · rename_i c C;split at h
     · rename_i hk;obtain ⟨j,O,rfl⟩:=iT.1 h;rw [nr] at O;have h1:=KP C;obtain ⟨h2,h3⟩:=A.xo c h1.1;obtain ⟨r,h4,h5,E⟩:=h3 (c.first+j) aj aj;refine ⟨aj,?_⟩;rw [da,h4];exact ⟨E.trans hk,h5.trans h1.2⟩
     · cases h
   · cases h
 · rintro ⟨h1,h2,h3⟩;have h4:F.rules[i]? =some (F.rules.getD i dU):=by rw [da,cz h1]; rfl
   obtain ⟨c,C,h5,E,I,J⟩:=A.part i _ h4;have G:=Xw A.uniq c C;rw [← I,h3] at G;rw [G];simp only;rw [if_pos (J.symm.trans h2)];exact iT.2 ⟨i - c.first,nr.2 aj,aj⟩
theorem U6 (F:aX) (k f:Nat):(iw F k f).Nodup:=by
 unfold iw;split
 · split
   · rw [List.Nodup,QX];exact aeS (fun h=>by omega) QW
   · exact .nil
 · exact .nil
theorem Ni {F:aX} (A:qS F) {k:Nat} :∀ {fs:List Nat},fs.Pairwise (· < ·)→(fs.flatMap<|iw F k).Nodup∧∀ i,i∈fs.flatMap (iw F k)↔i∈bq F fs k:=by
 intro fs h;refine ⟨?_,fun i=> ?_⟩
 · induction fs with
   | nil=>exact .nil
   | cons f fs O=>
     rw [lz] at h;rw [kI,yS];refine ⟨U6 F k f,O h.2,fun a E b C G=> ?_⟩;subst G;obtain ⟨g,J,C⟩:=rT.1 C;have h1:=(AE A).1 E;have h2:=(AE A).1 C;have :=h.1 g J;omega
 · rw [rT,oO];constructor
   · rintro ⟨f,I,hi⟩;have h1:=(AE A).1 hi;exact ⟨h1.1,h1.2.1,h1.2.2 ▸ I⟩
   · rintro ⟨h1,h2,h3⟩;exact ⟨_,h3,(AE A).2 ⟨h1,h2,ag⟩⟩
theorem acO {F:aX} (C:qS F) {fs:List Nat} (h:fs.Pairwise (· < ·)) (k:Nat):((fs.flatMap<|iw F k).map fun i:Nat=>(i:Int)).mergeSort (fun x y=>decide (x≤y))=(bq F fs k).map fun i:Nat=>(i:Int):=by
 obtain ⟨h1,h2⟩:=Ni C (k:=k) h;have hn:=E9 F fs k;have hp:=(List.mergeSort_perm ((fs.flatMap<|iw F k).map fun i:Nat=>(i:Int)) fun x y=>decide (x≤y)).trans<|((List.perm_ext_iff_of_nodup h1<|hn.imp fun h=>by omega).2 h2).map _;refine List.Perm.eq_of_pairwise (le:=fun x y:Int=>decide (x≤y)=true) ?_ (List.pairwise_mergeSort ?_ ?_ _) ?_ hp
 · intro a b _ _ h A; have :=of_decide_eq_true h; have :=of_decide_eq_true A; omega
 · intro a b c h A; have :=of_decide_eq_true h; have :=of_decide_eq_true A; exact decide_eq_true aj
 · intro a b; simp only [Bool.or_eq_true,decide_eq_true_eq]; omega
 · rw [QX]; exact hn.imp fun h=>decide_eq_true aj
def jN (l:List bO):Nat:=(l.map fun d=>d.eZ.length).sum
theorem Ig (a b:List bO):jN (a++b)=jN a+jN b:=by unfold jN; rw [fZ,List.sum_append]
theorem Ih (d:bO):jN [d]=d.eZ.length:=by simp [jN]
def kA (most limit:Int) (a:List bO):Bool:=decide (most≤(a.length:Int)∨limit < (jN a:Nat))
def tL (most limit:Int) (a:List bO) (d:bO):List bO:=if kA most limit a=true then a else a++ [d]
def oM (most limit:Int) (a L:List bO):List bO:=L.foldl (tL most limit) a
theorem ZJ (most limit:Int) (a L M:List bO):oM most limit a (L++M)=oM most limit (oM most limit a L) M:=List.foldl_append
theorem Ax {most limit:Int} {a:List bO} (h:kA most limit a=true):∀ L,oM most limit a L=a:=by
 intro L
 induction L with
 | nil=>rfl
 | cons d L A=>rw [oM,ta,tL,if_pos h]; exact A
theorem ZK {most limit:Int} (c:Nat) (Y:most*c≤limit) (hm:0≤most):∀ (L a:List bO),(∀ d∈L,d.eZ.length≤c)→a.length≤most→jN a≤a.length*c→oM most limit a L=a++L.take (most.toNat - a.length):=by
 intro L
 induction L with
 | nil=>intro a _ _ _; simp [oM]
 | cons d L G=>
   intro a A I J;by_cases h:(a.length:Int)=most
   · rw [Ax (decide_eq_true<|.inl aj),show most.toNat - a.length=0 by omega]; simp
   · have O:a.length*c≤(most.toNat)*c:=qO c aj;have V:((most.toNat*c:Nat):Int)=most*c:=by rw [Int.natCast_mul,Int.toNat_of_nonneg hm]
     have C:kA most limit a=false :=decide_eq_false fun h2=>by rcases h2 with h2 | h2 <;> omega
     rw [oM,ta,tL,if_neg (by rw [C]; exact eA)];have :=G (a++ [d]) (fun x E=>A x<|om _ E) (by rw [bP,fE]; omega) (by
      rw [Ig,Ih,bP,fE,Nat.add_mul];have :=A d (o6 ..); omega)
     rw [oM] at this;rw [this,bP,fE,show most.toNat - a.length=(most.toNat - (a.length+1))+1 by omega,List.take_succ_cons,e6]; rfl
theorem RU {r:dd} {w v:Tx} (h:eO r w=some v):r.strip.length < w.length∧v=(if r.kind=2 then w.take (w.length - r.strip.length)++r.add else r.add++w.drop r.strip.length):=by
 unfold eO at h;split at h
 · rename_i A;unfold iz at A;rw [iq,decide_eq_true_eq] at A;cases h;exact ⟨A.1.2,ag⟩
 · cases h
theorem tu {r:dd} {w v:Tx} (A:r.add.length≤32) (h:eO r w=some v):1≤v.length∧v.length≤w.length+32:=by
 obtain ⟨h1,rfl⟩:=RU h;split
 · rw [bP,dM]; omega
 · rw [bP,fM]; omega
theorem FW {F:aX} (A:∀ q∈F.rules,kt q) (i:Nat):kt (F.rules.getD i dU):=by
 rw [da];cases h:F.rules[i]? with
 | none=>exact ⟨iK _,iK _,iK _⟩
 | some q=>exact A q<|gL h
theorem Dg {F:aX} (A:∀ q∈F.rules,kt q) {xs:List bE} {e:Nat} {word:Tx} {f s:Int} (h1:1≤word.length):∀ d∈iL F xs e word f s,1≤d.eZ.length∧d.eZ.length≤word.length+32∧d.dQ=e∧d.fst=f∧d.snd=s:=by
 intro d hd;unfold iL at hd;rcases gq.1 hd with hd | hd
 · unfold oE at hd;split at hd
   · obtain rfl :=gD.1 hd;exact ⟨h1,Nat.le_add_right _ _,ag,ag,ag⟩
   · cases hd
 · obtain ⟨p,_,hp⟩:=List.mem_filterMap.1 hd;unfold nE at hp;split at hp
   · obtain ⟨v,C,rfl⟩:=ou.1 hp;have :=tu (FW A p).2.1 C;exact ⟨this.1,this.2,ag,ag,ag⟩
   · cases hp
theorem Ws {F:aX} (A:∀ q∈F.rules,kt q) {xs:List bE} {e:Nat} (h1:1≤(xs.getD e ([],[])).1.length):∀ d∈kg F xs e,1≤d.eZ.length∧d.eZ.length≤(xs.getD e ([],[])).1.length +96∧d.dQ=e:=by
 intro d hd;unfold kg at hd;rcases gq.1 hd with hd | hd
 · have :=Dg A h1 d hd; exact ⟨this.1,aj,this.2.2.1⟩
 · obtain ⟨s,_,hd⟩:=rT.1 hd;unfold mh at hd;split at hd
   · cases hd
   · rename_i w hw;have C:=tu (FW A s).2.1 hw;rcases gq.1 hd with hd | hd
     · have :=Dg A C.1 d hd; exact ⟨this.1,aj,this.2.2.1⟩
     · obtain ⟨z,_,hd⟩:=rT.1 hd;unfold nZ at hd;split at hd
       · cases hd
       · rename_i v G;have E:=tu (FW A z).2.1 G;have :=Dg A E.1 d hd; exact ⟨this.1,aj,this.2.2.1⟩
def nW (n:Nat):List Int:=(-1)::(gZ n).map fun i:Nat=>(i:Int)
noncomputable def ig (F:aX) (L:List Nat) (n:Int) (w:Tx):Option Tx:=if n= -1 then some w else if n.toNat∈L then eO (F.rules.getD n.toNat dU) w else none
noncomputable def ik (F:aX) (xs:List bE) (e:Nat) (f s p:Int):Option Tx:=
 if f= -1∧s≠ -1 then none
 else (ig F (bq F (flagsOf xs e) 2) f (xs.getD e ([],[])).1).bind fun w=>(ig F (bq F (cH F f) 2) s w).bind fun v=>(ig F (bq F (flagsOf xs e) 1) p v).bind fun u=>
  if fK F xs e f s p=true then some u else none
noncomputable def tC (F:aX) (xs:List bE) (e:Nat) (f s:Int):List bO:=(nW F.rules.length).filterMap fun p=>(ik F xs e f s p).map fun u=>(⟨u,e,f,s,p⟩:bO)
noncomputable def xv (F:aX) (xs:List bE) (e:Nat) (f:Int):List bO:=(nW F.rules.length).flatMap<|tC F xs e f
theorem Xr {α β:Type} {l:List α} {f:α→Option β} (h:∀ x∈l,f x=none):l.filterMap f= []:=by
 induction l with
 | nil=>rfl
 | cons x l C=>rw [B6,h x (o6 ..)]; exact C fun y A=>h y<|om _ A
theorem DT {α β:Type} {l:List α} {f:α→List β} (h:∀ x∈l,f x= []):l.flatMap f= []:=by
 induction l with
 | nil=>rfl
 | cons x l C=>rw [kI,h x (o6 ..),qL]; exact C fun y A=>h y<|om _ A
theorem KN {α β:Type} (q:α→Bool) (f:α→List β):∀ l:List α,(l.filter q).flatMap f=l.flatMap fun x=>if q x=true then f x else []:=by
 intro l
 induction l with
 | nil=>rfl
 | cons x l A=>
   by_cases h:q x=true
   · rw [List.filter_cons_of_pos h,kI,kI,if_pos h,A]
   · rw [List.filter_cons_of_neg h,kI,if_neg h,A]; rfl
theorem Lj {α β:Type} {f g:α→List β} :∀ {l:List α},(∀ x∈l,f x=g x)→l.flatMap f=l.flatMap g:=by
 intro l h
 induction l with
 | nil=>rfl
 | cons x l C=>rw [kI,kI,h x (o6 ..),C fun y A=>h y (om _ A)]
theorem Xq {α β:Type} {f g:α→Option β} :∀ {l:List α},(∀ x∈l,f x=g x)→l.filterMap f=l.filterMap g:=by
 intro l h
 induction l with
 | nil=>rfl
 | cons x l C=>rw [B6,B6,h x (o6 ..),C fun y A=>h y (om _ A)]
theorem E8 {F:aX} {fs:List Nat} {k i:Nat} (h:i < F.rules.length):decide ((F.rules.getD i dU).kind=k∧(F.rules.getD i dU).flag∈fs)=decide (i∈bq F fs k):=by
 rw [decide_eq_decide,oO]; exact ⟨fun h2=>⟨h,h2⟩,fun h2=>h2.2⟩
theorem tU {F:aX} {L:List Nat} (i:Nat) (w:Tx):ig F L (i:Int) w=if i∈L then eO (F.rules.getD i dU) w else none:=by
 unfold ig; rw [if_neg aj,Int.toNat_natCast]
theorem yn {F:aX} {L:List Nat} (w:Tx):ig F L (-1) w=some w:=by unfold ig; rw [if_pos rfl]
theorem DE {F:aX} {xs:List bE} {e:Nat} {f s:Int} {v:Tx} (h:∀ p,ik F xs e f s p=(ig F (bq F (flagsOf xs e) 1) p v).bind fun u=>if fK F xs e f s p=true then some u else none):tC F xs e f s=iL F xs e v f s:=by
 unfold tC nW iL;rw [B6,List.filterMap_map];have h1:(ik F xs e f s<|-1).map (fun u=>(⟨u,e,f,s,-1⟩:bO))=if fK F xs e f s (-1)=true then some ⟨v,e,f,s,-1⟩ else none:=by
  rw [h,yn,rW]; split <;> rfl
 have h2:(gZ F.rules.length).filterMap ((fun p=>(ik F xs e f s p).map fun u=>(⟨u,e,f,s,p⟩:bO))∘fun i:Nat=>(i:Int))=(bq F (flagsOf xs e) 1).filterMap (nE F xs e v f s):=by
  have h3:bq F (flagsOf xs e) 1=(gZ F.rules.length).filter fun i=>decide ((F.rules.getD i dU).kind=1∧(F.rules.getD i dU).flag∈flagsOf xs e):=rfl;rw [h3,List.filterMap_filter];refine Xq fun i hi=> ?_;have hi:i < F.rules.length:=by simpa using hi
  rw [E8 hi];show (ik F xs e f s (i:Int)).map _=_;rw [h,tU];unfold nE;by_cases h4:i∈bq F (flagsOf xs e) 1
  · rw [if_pos h4,if_pos (decide_eq_true h4)];cases eO (F.rules.getD i dU) v with
    | none=>simp
    | some u=>simp only [rW]; split <;> rfl
  · rw [if_neg h4,if_neg (by rw [decide_eq_false h4]; exact eA)]; rfl
 rw [h1,h2];unfold oE;split
 · rename_i h3; split at h3
   · cases h3
   · rename_i h4; rw [if_neg h4]; rfl
 · rename_i x h3; split at h3
   · rename_i h4; cases h3; rw [if_pos h4]; rfl
   · cases h3
theorem xu {F:aX} {xs:List bE} {e:Nat} {f s:Int} (h:∀ p,ik F xs e f s p=none):tC F xs e f s= []:=Xr fun p _=>by rw [h p]; rfl
theorem Dv (F:aX) (xs:List bE) (e:Nat):kg F xs e=(nW F.rules.length).flatMap (xv F xs e):=by
 unfold nW;rw [kI,QI];unfold kg;congr 1
 · unfold xv nW;rw [kI,DT,eJ,DE (v:=(xs.getD e ([],[])).1)]
   · intro p; unfold ik; rw [if_neg (fun h=>h.2 rfl),yn,rW,yn,rW]
   · intro s hs;obtain ⟨j,_,rfl⟩:=iT.1 hs;exact xu fun p=>by unfold ik; rw [if_pos ⟨ag,aj⟩]
 · have h3:bq F (flagsOf xs e) 2=(gZ F.rules.length).filter fun i=>decide ((F.rules.getD i dU).kind=2∧(F.rules.getD i dU).flag∈flagsOf xs e):=rfl;conv =>lhs; rw [h3]
   rw [KN];refine Lj fun i hi=> ?_;have hi:i < F.rules.length:=by simpa using hi
   rw [E8 hi];have hm:∀ s p,ik F xs e (i:Int) s p=(ig F (bq F (flagsOf xs e) 2) (i:Int) (xs.getD e ([],[])).1).bind fun w=>(ig F (bq F (cH F (i:Int)) 2) s w).bind fun v=>(ig F (bq F (flagsOf xs e) 1) p v).bind fun u=>
    if fK F xs e (i:Int) s p=true then some u else none:=fun s p=>by unfold ik; rw [if_neg (fun h=>by have :=h.1; omega)]
   by_cases h4:i∈bq F (flagsOf xs e) 2
   · rw [if_pos (decide_eq_true h4)];unfold mh;cases h5:eO (F.rules.getD i dU) (xs.getD e ([],[])).1 with
     | none=>
       have :∀ s p,ik F xs e (i:Int) s p=none:=fun s p=>by rw [hm,tU,if_pos h4,h5]; rfl
       exact (DT fun s _=>xu fun p=>this s p).symm
     | some w=>
       have C:∀ s p,ik F xs e (i:Int) s p=(ig F (bq F (cH F (i:Int)) 2) s w).bind fun v=>(ig F (bq F (flagsOf xs e) 1) p v).bind fun u=>if fK F xs e (i:Int) s p=true then some u else none:=fun s p=>by rw [hm,tU,if_pos h4,h5]; rfl
       simp only;unfold xv nW;rw [kI,QI,DE (v:=w) fun p=>by rw [C,yn]; rfl];congr 1;have G:bq F (cH F (i:Int)) 2=(gZ F.rules.length).filter fun z=>decide ((F.rules.getD z dU).kind=2∧(F.rules.getD z dU).flag∈cH F (i:Int)):=rfl;conv =>lhs; rw [G]
       rw [KN];refine Lj fun z E=> ?_;have E:z < F.rules.length:=by simpa using E
       rw [E8 E];by_cases A:z∈bq F (cH F (i:Int)) 2
       · rw [if_pos (decide_eq_true A)];unfold nZ;cases h8:eO (F.rules.getD z dU) w with
         | none=>exact (xu fun p=>by rw [C,tU,if_pos A,h8]; rfl).symm
         | some v=>exact (DE (v:=v) fun p=>by rw [C,tU,if_pos A,h8]; rfl).symm
       · rw [if_neg (by rw [decide_eq_false A]; exact eA)];exact (xu fun p=>by rw [C,tU,if_neg A]; rfl).symm
   · rw [if_neg (by rw [decide_eq_false h4]; exact eA)];exact (DT fun s _=>xu fun p=>by rw [hm,tU,if_neg h4]; rfl).symm
end Go.Hb
section
namespace Go.Hb
section
variable {B B':Nat} {fp fp' fp'':Nat→Prop} {w w' w'':World}
end
section
variable {F fp:Nat→Prop} {W W':World} {B:Nat}
end
section
variable {P:Program} {N:Fm} {ops:Array Oper} {Q:Exit→(Nat→Value)→World→Prop} {rest:List Oper} {σ:Nat→Value} {w:World} {d':Option Nat} {d:Nat} {op:Op} {ty:TypeId} {pos :String} {af:Array Edge} {v:Value}
end
section
variable {P:Program} {n:Nat} {F:List Nat} {σ:Nat→Value} {w:World} {fn:Func} {R:Value→World→Prop}
end
def DN (P:Program) (s f:Nat):Option Nat:=
 match P.underlying s with
 | some (.struct fs)=>match fs[f]? with
   | some fd=>if dN P fd.type=some none then some fd.offset else none
   | none=>none
 | _=>none
theorem acn {P:Program} {t:Nat} (hu:dN P t=some none) (w:World):(isAgg t).run P w= .ok false w:=by
 unfold dN at hu;cases hd:P.underlying t with
 | none=>rw [hd] at hu; cases hu
 | some d=>
   rw [hd] at hu;cases d <;> first
    | (simp only [ou] at hu; obtain ⟨_,_,h⟩:=hu; cases h; done)
    | simp [isAgg,ep hd]
theorem KE {P:Program} {N:Fm} {σ:Nat→Value} {w:World} {dst:Option Nat} {ty:TypeId} {pos :String} {af:Array Edge} {g:Option (Nat×Bool)} {x:Operand} {s f n:Nat} {cs:Array Value} {v:Value} (A:DN P s f=some n) (I:ev N σ x= .agg cs) (G:cs[n]? =some v):
 (execOp (ev N σ) ⟨dst,.field s x f,ty,pos,af,g⟩).run P w= .ok (.value v) w:=by
 unfold DN at A;split at A
 · rename_i fs hu;split at A
   · rename_i fd E;split at A
     · rename_i C;cases A;simp [execOp,Qc,ep hu,E,I,asAgg,part,acn C,G]
     · cases A
   · cases A
 · cases A
section
variable {P:Program} {ops:Array Oper} {Q:Exit→Act→World→Prop} {S:World→Prop} {md:uk}
def PH (P:Program) (md:uk) (ops:Array Oper) (Q:Exit→Act→World→Prop) (S:World→Prop):Nat→Array Bool→Act→World→Prop
 | 0,bC,a,w=>ly md ops bC= []∧Q .normal a w
 | fuel+1,bC,a,w=>
   (ly md ops bC= []→Q .normal a w)∧
   ∀ i∈ly md ops bC,wpOpIn rN 0 P ops Q i (fun A w'=>S w'∧PH P md ops Q S fuel (bC.setIfInBounds i true) A w') a w
end
def wpy (P:Program) (N:Fm) (ops:Array Oper) (Q:Exit→(Nat→Value)→World→Prop) (S:World→Prop) (fuel:Nat) (bC:Array Bool) (σ:Nat→Value) (w:World):Prop :=
 PH P .any ops (lift N Q) S fuel bC (act N σ) w
section
variable {P:Program} {N:Fm} {ops:Array Oper} {Q:Exit→(Nat→Value)→World→Prop} {σ:Nat→Value} {w:World} {d':Option Nat} {d:Nat} {op:Op} {ty:TypeId} {pos :String} {af:Array Edge} {v:Value}
variable {S:World→Prop} {fuel:Nat} {bC:Array Bool}
end
attribute [irreducible] wpy
end Go.Hb
end
namespace Go.Hb
theorem Nz {b:UInt8} {m:Int} (h:48≤b.toNat∧b.toNat≤57) (hm:((b.toNat - 48:Nat):Int)≤m):fF [b] m= .ok (b.toNat - 48):=by
 have A:fA [b]=b.toNat - 48:=by simp [fA]
 have C:¬sy [b]:=by rintro (h | ⟨h,_⟩) <;> simp at h
 have hd:Dy [b]:=fun i hi=>by
  have hi:i=0:=by simpa using hi
  subst hi;exact decide_eq_true h
 unfold fF;rw [Fc C hd (by rw [A]; omega),A];rfl
theorem GJ:e9 1 [65]=65:=by unfold e9; decide+kernel
theorem aes:iF jb [65]= .ok 65:=by
 unfold iF iN jb;simp only;rw [GJ];simp [e8,eB]
theorem aet:lK 1 [65]= .ok [65]:=by
 have h1:ec 1 [65]= [[65]]:=by decide+kernel
 have h:eD 1 [65]=([65],0):=by
  unfold eD;rw [h1,if_neg (by simp),if_neg (by simp [GJ]),if_neg (by simp),tc,List.map_nil,GJ];decide+kernel
 unfold lK;rw [h]; rfl
end Go.Hb
section
namespace Go.Hb
section
variable {P:Program} {n:Nat} {Fx:List Nat} {σ:Nat→Value} {w:World} {fn:Func} {R:Value→World→Prop} {B:Exit→Act→World→Prop} {N:Fm}
variable {S:List Nat→(Nat→Value)→World→Prop}
end
theorem Na (o:Nat):∀ (r:List Value) (m:Nat) (pre A:List Value),pre.length=o+m→r.length≤A.length→
 (r.zipIdx m).foldl (fun (cs:Array Value) (c,j)=>cs.setIfInBounds (o+j) c) (pre++A).toArray=(pre++r++A.drop r.length).toArray
 | [],m,pre,A,_,_=>by simp
 | c::r,m,pre,A,hp,hl=>by
   cases A with
   | nil=>simp at hl
   | cons z A=>
     rw [Cg,ta];have h1:(pre++z::A).toArray.setIfInBounds (o+m) c=((pre++ [c])++A).toArray:=by rw [← hp]; simp
     show List.foldl _ ((pre++z::A).toArray.setIfInBounds (o+m) c) _=_;rw [h1,Na o r (m+1) (pre++ [c]) A (by simp; omega) (by simpa using hl)];simp
theorem KM {size:Nat} :∀ (rest:List (List Value)) (m:Nat) (pre A:List Value),pre.length=m*size→A.length=rest.length*size→(∀ r∈rest,r.length=size)→
 od (fun i=>some (i*size,size)) (pre++A).toArray ((rest.zipIdx m).map fun q=>(q.2,ca q.1.toArray))=some (pre++rest.flatten).toArray
 | [],m,pre,A,_,hz,_=>by
   obtain rfl :A= []:=fY<|by simpa using hz
   rfl
 | r::rest,m,pre,A,hp,hz,hr=>by
   have C:=hr r<|o6 ..;have I:A.length=rest.length*size+size:=by rw [hz,db,rV]
   rw [Cg,tc];have E:(ca r.toArray).cells=r.toArray:=by simp [Value.cells]
   simp only [od,E];rw [if_neg (by simp; omega)];have h1:=Na (m*size) r 0 pre A aj aj;have h2:(r.toArray.zipIdx.foldl (fun (cs:Array Value) (c,j)=>cs.setIfInBounds (m*size+j) c) (pre++A).toArray)=(pre++r++A.drop r.length).toArray:=by
    rw [← h1,← PT]; simp
   rw [h2,KM rest (m+1) (pre++r) (A.drop r.length) (by rw [bP,hp,C,rV]) (by rw [fM]; omega) (fun x G=>hr x<|om _ G)];simp
section
variable {P:Program} {N:Fm} {σ:Nat→Value} {w:World} {dst:Option Nat} {ty:TypeId} {pos :String} {af:Array Edge} {g:Option (Nat×Bool)} {K:(Nat→Value)→World→Prop}
theorem Sj {t e size bytes n:Nat} {ps:Array (Nat×Operand)} (rows:List (List Value)) (O:gz P t e size bytes=true) (hp:ps.toList.map (fun p=>(p.1,ev N σ p.2))=(rows.zipIdx 0).map fun q=>(q.2,ca q.1.toArray))
 (E:rows.all (fun r=>r.length==size)=true) (hn:rows.length=n) (hs:(o7 (n*size) 1000 && iU 0 n && o7 n 1000)=true)
 (k:∀ b w',b=w.heap.size→Nw w w'→w'.heap[b]? =some (.cells rows.flatten.toArray e (0,0))→K (gK σ dst<|.slice (some ⟨b,0,none⟩) n n) w'):dW P N ⟨dst,.buildSlice t n ps,ty,pos,af,g⟩ σ w K:=by
 subst hn;refine oW (v:=fun b=> .slice (some ⟨b,0,none⟩) rows.length rows.length) (ob:= .cells rows.flatten.toArray e (0,0)) ?_ k;obtain ⟨hu,i,zv,hi,V,A,h2,h3,h4⟩:=sN O;simp only [iq] at hs;have I:rows.length*size≤1000:=by simpa using hs.1.1
 have Z:rows.length≤1000:=by simpa using hs.2
 have J:0 < rows.length:=by have :=td hs.1.2; omega
 have C:od (fun i=>some (i*size,size)) ((rL<|rows.length*size).map (zv.cells[· % zv.cells.size]!)) (ps.toList.map fun p=>(p.1,ev N σ p.2))=some rows.flatten.toArray:=by
  rw [hp];have Y:((rL<|rows.length*size).map (zv.cells[· % zv.cells.size]!)).toList.length=rows.length*size:=by simp
  have :=KM (size:=size) rows 0 [] ((rL<|rows.length*size).map (zv.cells[· % zv.cells.size]!)).toList (by simp) Y fun r G=>by have :=List.all_eq_true.1 E r G; simpa using this
  rw [qL,qL,BM] at this;exact this
 simp only [execOp,Instr.buildSlice,o0,ep hu,oZ,sizeOf,jH hi,rQ,A,Sem.run_ite,zeroValue,V,oc,C];rw [if_neg (Nat.not_lt.2<|Nat.le_trans I aM),if_neg (Nat.pos_iff_ne_zero.1<|Nat.mul_pos J h4)];simp [newRow]
end
section
variable {P:Program} {N:Fm} {σ:Nat→Value} {w:World} {dst:Option Nat} {ty:TypeId} {pos :String} {af:Array Edge} {g:Option (Nat×Bool)} {x y:Operand}
end
end Go.Hb
end
section
namespace Go.Hb
open Go.ChangeMaps
open Classical
structure th (es:List MapEntry) (c:Nat):Prop where
 lt:∀ e∈es,e.born < c
 nd:(es.map (·.born)).Nodup
structure qT (es:List MapEntry) (isK:Value→Prop) (f:Value→Option Value):Prop where
 ks:∀ e∈es,isK e.key
 nd:(es.map (·.key)).Nodup
 iff :∀ k v,f k=some v↔∃ e∈es,e.key=k∧e.val=v
def l3 (h:Array Obj) (b:Nat) (isK:Value→Prop) (f:Value→Option Value):Prop := ∃ es c,h[b]? =some (.map es c)∧th es.toList c∧qT es.toList isK f
theorem l3.AI {h:Array Obj} {b:Nat} {isK:Value→Prop} {f:Value→Option Value} (hm:l3 h b isK f):dq h b isK f:=by
 obtain ⟨es,c,h1,_,h3⟩:=hm;refine ⟨_,⟨es,c,h1,ag⟩,fun p hp=> ?_,?_,fun k v=> ?_⟩
 · obtain ⟨e,he,rfl⟩:=iT.1 hp; exact h3.ks e he
 · rw [QP]; exact h3.nd
 · rw [h3.iff,iT];exact ⟨fun ⟨e,he,h1,h2⟩=>⟨e,he,by rw [h1,h2]⟩,fun ⟨e,he,h1⟩=>⟨e,he,congrArg iW h1,congrArg Prod.snd h1⟩⟩
theorem l3.md {F:Nat→Prop} {w w':World} {b:Nat} {isK:Value→Prop} {f:Value→Option Value} (h:l3 w.heap b isK f) (hm:Md F w w') (A:¬F b):l3 w'.heap b isK f:=by
 obtain ⟨es,c,h1,h2⟩:=h;exact ⟨es,c,by rw [hm.dJ b (dT.1 h1).1 A]; exact h1,h2⟩
theorem l3.nil {h:Array Obj} {b:Nat} {isK:Value→Prop} {c:Nat} (hm:h[b]? =some (.map #[] c)):l3 h b isK fun _=>none:=
 ⟨#[],c,hm,⟨fun _ h=>by simp at h,by simp⟩,fun _ h=>by simp at h,by simp,fun k v=>by simp⟩
def uD (h:Array Obj) (b:Nat) (isK:Value→Prop) (f:Value→Option Value) (kx:Value) (st:Nat):Prop := ∃ es c,h[b]? =some (.map es c)∧th es.toList c∧qT es.toList isK f∧∃ e∈es.toList,e.key=kx∧e.born=st
theorem uD.mpb {h:Array Obj} {b:Nat} {isK:Value→Prop} {f:Value→Option Value} {kx:Value} {st:Nat} (hm:uD h b isK f kx st):l3 h b isK f:=let ⟨es,c,h1,h2,h3,_⟩:=hm; ⟨es,c,h1,h2,h3⟩
theorem qT.push {es:List MapEntry} {isK:Value→Prop} {f:Value→Option Value} {kx v:Value} {c:Nat} (h:qT es isK f) (hi:isK kx) (C:∀ e∈es,e.key≠kx):qT (es++ [{key:=kx,val:=v,born:=c}]) isK (bZ f kx v) where
 ks e he:=by
  rcases gq.1 he with he | he
  · exact h.ks e he
  · rw [gD.1 he]; exact hi
 nd:=by
  rw [fZ,yS];refine ⟨h.nd,by simp,fun a E b A G=> ?_⟩;obtain ⟨e,he,rfl⟩:=iT.1 E;simp at A;exact C e he<|by rw [G,A]
 iff k u:=by
  unfold bZ;by_cases hk:k=kx
  · subst hk;rw [if_pos rfl];constructor
    · intro h1; cases h1; exact ⟨_,wz _ (gD.2 rfl),rfl,rfl⟩
    · rintro ⟨e,he,h1,h2⟩;rcases gq.1 he with he | he
      · exact absurd h1<|C e he
      · rw [gD.1 he] at h2; rw [← h2]
  · rw [if_neg hk,h.iff];constructor
    · rintro ⟨e,he,h1⟩; exact ⟨e,Cb _ he,h1⟩
    · rintro ⟨e,he,h1,h2⟩;rcases gq.1 he with he | he
      · exact ⟨e,he,h1,h2⟩
      · rw [gD.1 he] at h1; exact absurd h1.symm hk
theorem th.push {es:List MapEntry} {kx v:Value} {c:Nat} (h:th es c):th (es++ [{key:=kx,val:=v,born:=c}]) (c+1) where
 lt e he:=by
  rcases gq.1 he with he | he
  · have :=h.lt e he; omega
  · rw [gD.1 he]; exact Nat.lt_succ_self _
 nd:=by
  rw [fZ,yS];refine ⟨h.nd,by simp,fun a A b C E=> ?_⟩;obtain ⟨e,he,rfl⟩:=iT.1 A;simp at C;have :=h.lt e he; omega
theorem AH {α:Type} (l:List α) (g:α→α) (i j:Nat):(l.modify i g)[j]? =if i=j then (l[j]?).map g else l[j]? :=by
 rw [QL];by_cases h:i=j
 · simp [h]
 · simp [h]
theorem vB {α:Type} {l:List α} {g:α→α} {i:Nat} {e:α} (hi:l[i]? =some e) (x:α):x∈l.modify i g↔x=g e∨∃ j,j≠i∧l[j]? =some x:=by
 rw [List.mem_iff_getElem?];constructor
 · rintro ⟨j,A⟩;rw [AH] at A;by_cases h:i=j
   · subst h; rw [if_pos rfl,hi] at A; exact .inl (wS A).symm
   · rw [if_neg h] at A;exact .inr ⟨j,fun e=>h e.symm,A⟩
 · rintro (rfl | ⟨j,A,h⟩)
   · exact ⟨i,by rw [AH,if_pos ag,hi]; rfl⟩
   · exact ⟨j,by rw [AH,if_neg (fun e=>A e.symm),h]⟩
theorem Nh {α β:Type} {l:List α} (g:α→α) (p:α→β) (hp:∀ x,p (g x)=p x) (i:Nat):(l.modify i g).map p=l.map p:=by
 apply qI;intro j;rw [gi,gi,AH];cases l[j]? with
 | none=>by_cases h:i=j <;> simp [h]
 | some x=>by_cases h:i=j <;> simp [h,hp]
theorem qT.acy {es:List MapEntry} {isK:Value→Prop} {f:Value→Option Value} {v:Value} {i:Nat} {e:MapEntry} (h:qT es isK f) (hi:es[i]? =some e):qT (es.modify i fun e=> {e with val:=v}) isK (bZ f e.key v) where
 ks x C:=by
  rcases (vB hi x).1 C with rfl | ⟨j,_,A⟩
  · exact h.ks e<|gL hi
  · exact h.ks x<|gL A
 nd:=by rw [Nh (fun e:MapEntry=> {e with val:=v}) (·.key) (fun _=>rfl)]; exact h.nd
 iff k u:=by
  have J:∀ {j:Nat} {x:MapEntry},es[j]? =some x→x.key=e.key→j=i:=fun {j x} A hk=>by
   have I:=(fS.1 A).1;exact (Hp (by simpa using I) h.nd).1<|by rw [gi,gi,A,hi,lX,lX,hk]
  unfold bZ;by_cases hk:k=e.key
  · subst hk;rw [if_pos rfl];constructor
    · intro h1; cases h1; exact ⟨_,(vB hi _).2 (.inl rfl),rfl,rfl⟩
    · rintro ⟨x,C,h1,h2⟩;rcases (vB hi x).1 C with rfl | ⟨j,A,G⟩
      · rw [← h2]
      · exact absurd (J G h1) A
  · rw [if_neg hk,h.iff];constructor
    · rintro ⟨x,C,h1,h2⟩;obtain ⟨j,A⟩:=ur C;have E:j≠i:=fun E=>by subst E; rw [hi] at A; cases A; exact hk h1.symm
      exact ⟨x,(vB hi x).2 (.inr ⟨j,E,A⟩),h1,h2⟩
    · rintro ⟨x,C,h1,h2⟩;rcases (vB hi x).1 C with rfl | ⟨j,_,G⟩
      · exact absurd h1.symm hk
      · exact ⟨x,gL G,h1,h2⟩
theorem abB {f:Value→Option Value} {k v:Value} (h:f k=some v):bZ f k v=f:=by
 funext q; unfold bZ;by_cases A:q=k
 · subst A; rw [if_pos rfl,h]
 · rw [if_neg A]
section
variable {P:Program} {N:Fm} {σ:Nat→Value} {w:World} {dst:Option Nat} {ty:TypeId} {pos :String} {af:Array Edge} {g:Option (Nat×Bool)} {x y z:Operand} {K:(Nat→Value)→World→Prop}
variable {t k e:TypeId} {isK:Value→Prop} {b:Nat} {f:Value→Option Value} {kx v zv:Value}
theorem aau (ae:P.underlying t=some (.map k e)) (ak:zeroV P e=some zv) (I:mP P k isK) (hm:l3 w.heap b isK f) (hi:isK kx):
 ∃ st w',(G1 t (.map<|some b) kx).run P w= .ok (.tuple #[(f kx).getD zv,.int .i64 ((st:Nat):Int)]) w'∧Md (fun j=>j=b) w w'∧uD w'.heap b isK (bZ f kx<|(f kx).getD zv) kx st:=by
 obtain ⟨es,c,G,O,E⟩:=hm;have V:=(dT.1 G).1;rcases I.key.find w kx es.toList hi E.ks with ⟨h1,ac⟩ | ⟨j,C,h1,Z,h5⟩
 · have A:f kx=none:=by
    cases A:f kx with
    | none=>rfl
    | some u=>obtain ⟨ah,ai,h2,_⟩:=(E.iff kx u).1 A; exact absurd h2<|ac ah ai
   refine ⟨c,{w with heap:=w.heap.setIfInBounds b<|.map (es.push {key:=kx,val:=zv,born:=c})<|c+1},?_,⟨ag,ag,by simp,fun i _ J=>by simp only; rw [wa (fun e=>J e.symm)]⟩,es.push {key:=kx,val:=zv,born:=c},c+1,by simp only; rw [wc V],?_,?_,?_⟩
   · rw [A];simp [G1,ep ae,run_getObj_map G,I.key.check _ w kx hi,h1,setObj,um,G,yv ak,goInt]
   · rw [GW]; exact O.push
   · rw [GW,A]; exact E.push hi ac
   · exact ⟨_,by rw [GW]; exact wz _ (gD.2 ag),ag,ag⟩
 · have aa:es[j]? =some C:=by simpa using Z
   have ab:=gL Z;have A:f kx=some C.val:=(E.iff kx _).2 ⟨C,ab,h5,rfl⟩;have aj:(es.modify j fun e=> {e with key:=kx})=es:=by
    apply Array.ext_getElem?;intro i;rw [Array.getElem?_modify];by_cases Y:j=i
    · subst Y; rw [if_pos rfl,aa,← h5]; rfl
    · rw [if_neg Y]
   refine ⟨C.born,{w with heap:=w.heap.setIfInBounds b<|.map (es.modify j fun e=> {e with key:=kx}) c},?_,⟨ag,ag,by simp,fun i _ J=>by simp only; rw [wa (fun e=>J e.symm)]⟩,es,c,by simp only; rw [wc V,aj],O,?_,C,ab,h5,ag⟩
   · have hs:=I.stays w kx hi;rw [A];simp [G1,ep ae,run_getObj_map G,I.key.check _ w kx hi,h1,aa,h5,hs,setObj,um,G,goInt]
   · rw [A]; show qT _ _ (bZ f kx C.val); rw [abB A]; exact E
theorem men (C:P.underlying t=some (.map k e)) (I:zeroV P e=some zv) (A:mP P k isK) (hm:l3 w.heap b isK f) (E:ev N σ x= .map (some b)) (G:ev N σ y=kx) (hi:isK kx)
 (J:∀ (st:Nat) w',Md (fun j=>j=b) w w'→uD w'.heap b isK (bZ f kx<|(f kx).getD zv) kx st→K (gK σ dst<|.tuple #[(f kx).getD zv,.int .i64 (st:Nat)]) w'):dW P N ⟨dst,.mapEntry t x y,ty,pos,af,g⟩ σ w K:=by
 obtain ⟨st,w',h1,h2,h3⟩:=aau C I A hm hi;refine np (v:= .tuple #[(f kx).getD zv,.int .i64 (st:Nat)]) ?_<|J st w' h2 h3;simp [execOp,E,G,h1]
theorem aaw {st:Nat} (hm:uD w.heap b isK f kx st):∃ w',(Qb t (.map<|some b) (.int .i64 (st:Nat)) v).run P w= .ok () w'∧Md (fun j=>j=b) w w'∧l3 w'.heap b isK (bZ f kx v):=by
 obtain ⟨es,c,E,C,Z,G,I,ae,V⟩:=hm;have aa:=(dT.1 E).1;obtain ⟨i,hi⟩:=ur I;have J:es[i]? =some G:=by simpa using hi
 have ac:=(dT.1 J).1;have ab:es.findIdx? (fun e=>(e.born:Int)==(st:Int))=some i:=by
  rw [Array.findIdx?_eq_some_iff_getElem];refine ⟨ac,?_,fun j O=> ?_⟩
  · rw [(dT.1 J).2,V]; simp
  · have A:(es.toList.map (·.born))[j]?≠(es.toList.map (·.born))[i]? :=fun h=>by
     have :=(Hp (by simp; omega) C.nd).1 h; omega
    rw [gi,gi,hi,cz (by simp; omega)] at A;simp only [lX,Array.getElem_toList] at A;simp only [beq_iff_eq];intro h;exact A<|congrArg some<|by rw [V]; omega
 refine ⟨{w with heap:=w.heap.setIfInBounds b<|.map (es.modify i fun e=> {e with val:=v}) c},?_,⟨ag,ag,by simp,fun j _ A=>by simp only; rw [wa (fun e=>A e.symm)]⟩,es.modify i fun e=> {e with val:=v},c,by simp only; rw [wc aa],⟨fun x Y=> ?_,?_⟩,?_⟩
 · simp [Qb,run_getObj_map E,asInt,asIntOf,ab,setObj,um,E]
 · rw [BQ] at Y;rcases (vB hi x).1 Y with rfl | ⟨j,_,O⟩
   · exact C.lt G I
   · exact C.lt x<|gL O
 · rw [BQ,Nh (fun e:MapEntry=> {e with val:=v}) (·.born) (fun _=>rfl)]; exact C.nd
 · rw [BQ,← ae]; exact Z.acy hi
theorem mes {st:Nat} (hm:uD w.heap b isK f kx st) (C:ev N σ x= .map (some b)) (E:ev N σ y= .int .i64 (st:Nat)) (G:ev N σ z=v)
 (I:∀ w',Md (fun j=>j=b) w w'→l3 w'.heap b isK (bZ f kx v)→K σ w'):dW P N ⟨none,.entryStore t x y z,ty,pos,af,g⟩ σ w K:=by
 obtain ⟨w',h1,h2,h3⟩:=aaw (P:=P) (t:=t) (v:=v) hm;have A:(execOp (ev N σ) ⟨none,.entryStore t x y z,ty,pos,af,g⟩).run P w= .ok .skip w':=by
  simp [execOp,C,E,G,h1]
 unfold dW kG;rw [jM,A];exact ⟨σ,ag,I w' h2 h3⟩
end
def qU (h:Array Obj) (r b:Nat) (left :List (Value×Value)):Prop :=
 ∃ (es:Array MapEntry) (c:Nat) (seen:Array Nat) (A:Nat),h[r]? =some (.mapIter (some b) c seen A)∧c≤A∧h[b]? =some (.map es c)∧th es.toList c∧(leftOf es seen).toList.map (fun e=>(e.key,e.val))=left
def wW (h:Array Obj) (r b:Nat) (left :List (Value×Value)) (A:Value×Value):Prop :=
 ∃ (es:Array MapEntry) (c:Nat) (seen:Array Nat) (e:MapEntry),h[r]? =some (.mapIter (some b) c (seen.push e.born) c)∧h[b]? =some (.map es c)∧th es.toList c∧(leftOf es<|seen.push e.born).toList.map (fun e=>(e.key,e.val))=left∧e∈es.toList∧(e.key,e.val)=A
theorem wW.mri {h:Array Obj} {r b:Nat} {left :List (Value×Value)} {A:Value×Value} (hm:wW h r b left A):qU h r b left :=let ⟨es,c,seen,e,h1,h2,h3,h4,_⟩:=hm; ⟨es,c,_,c,h1,cU _,h2,h3,h4⟩
theorem qU.md {F:Nat→Prop} {w w':World} {r b:Nat} {left :List (Value×Value)} (h:qU w.heap r b left) (hm:Md F w w') (E:¬F r) (C:¬F b):qU w'.heap r b left :=by
 obtain ⟨es,c,seen,A,h1,h2,h3,h4⟩:=h;exact ⟨es,c,seen,A,by rw [hm.dJ r (dT.1 h1).1 E]; exact h1,h2,by rw [hm.dJ b (dT.1 h3).1 C]; exact h3,h4⟩
section
variable {P:Program} {N:Fm} {σ:Nat→Value} {w:World} {dst:Option Nat} {ty:TypeId} {pos :String} {af:Array Edge} {g:Option (Nat×Bool)} {x y z:Operand} {K:(Nat→Value)→World→Prop}
variable {t k e:TypeId} {isK:Value→Prop} {b:Nat} {f:Value→Option Value} {kx v zv:Value}
theorem rgm (I:P.underlying t=some (.map k e)) (hm:l3 w.heap b isK f) (J:ev N σ x= .map (some b))
 (O:∀ r w' left,r=w.heap.size→Nw w w'→qU w'.heap r b left→(∀ p∈left,isK p.1)→(left.map iW).Nodup→(∀ k v,f k=some v↔(k,v)∈left)→K (gK σ dst<|.pointer<|some ⟨r,0,none⟩) w'):
 dW P N ⟨dst,.range t x,ty,pos,af,g⟩ σ w K:=by
 obtain ⟨es,c,C,E,A⟩:=hm;have G:=(dT.1 C).1;refine oW (v:=fun r=> .pointer<|some ⟨r,0,none⟩) (ob:= .mapIter (some b) c #[] c) ?_ (fun r w' h1 h2 h3=>O r w' (es.toList.map fun e=>(e.key,e.val)) h1 h2 ⟨es,c,#[],c,h3,cU _,by rw [h2.md.dJ b G id]; exact C,E,by unfold leftOf; simp only [BN]; rw [B7.2 (fun x _=>by simp)]⟩ ?_ ?_ ?_)
 · simp [execOp,J,Instr.range,ep I,run_getObj_map C]
 · intro p hp; obtain ⟨e,he,rfl⟩:=iT.1 hp; exact A.ks e he
 · rw [QP]; exact A.nd
 · intro k v;rw [A.iff,iT];exact ⟨fun ⟨e,he,h1,h2⟩=>⟨e,he,by rw [h1,h2]⟩,fun ⟨e,he,h1⟩=>⟨e,he,congrArg iW h1,congrArg Prod.snd h1⟩⟩
theorem Z2 {es:Array MapEntry} {seen:Array Nat} {e:MapEntry} (hn:(es.toList.map (·.born)).Nodup) (he:e∈(leftOf es seen).toList):(leftOf es seen).toList.Perm (e::(leftOf es<|seen.push e.born).toList):=by
 have h1:(leftOf es<|seen.push e.born).toList=(leftOf es seen).toList.filter fun x=>x.born !=e.born:=by
  unfold leftOf;simp only [BN,List.filter_filter];congr 1;funext x;have E:(seen.push e.born).contains x.born=(seen.contains x.born || x.born==e.born):=by
   rw [sW]; simp [Array.mem_push]
  rw [E,Bool.not_or,Bool.and_comm]; rfl
 have A:((leftOf es seen).toList.map (·.born)).Nodup:=by
  unfold leftOf;rw [BN];exact (List.filter_sublist.map _).nodup hn
 rw [h1];generalize (leftOf es seen).toList=l at he A;clear h1
 induction l with
 | nil=>cases he
 | cons a l J=>
   rw [tc,Cd] at A;by_cases C:a=e
   · subst C;have h2:(a::l).filter (fun x=>x.born !=a.born)=l:=by
      rw [o3,if_neg (by simp)];exact B7.2 fun x I=>by
       have :x.born≠a.born:=fun h=>A.1<|h ▸ uu I;simpa using this
     rw [h2]
   · have Ez:e∈l:=by
      rcases eL.1 he with h | h
      · exact absurd h.symm C
      · exact h
     have G:a.born≠e.born:=fun h=>A.1<|h ▸ uu Ez;rw [o3,if_pos (by simpa using G)];exact ((J Ez A.2).cons a).trans<|List.Perm.swap e a _
theorem nxm {r:Nat} {left :List (Value×Value)} (hm:qU w.heap r b left) (Y:ev N σ x= .pointer (some ⟨r,0,none⟩))
 (ac:left = []→K (gK σ dst<|.tuple #[.bool false]) w)
 (h1:∀ C Z w',left.Perm (C::Z)→Md (fun j=>j=r) w w'→wW w'.heap r b Z C→K (gK σ dst<|.tuple #[.bool true,C.1,C.2]) w'):
 dW P N ⟨dst,.next x false,ty,pos,af,g⟩ σ w K:=by
 obtain ⟨es,c,seen,ab,G,ae,A,E,rfl⟩:=hm;rcases run_next_at (P:=P) w ty r b c ab seen es c G A E.lt ae with ⟨h2,J⟩ | ⟨e,he,aa,O,J⟩
 · refine np (v:= .tuple #[.bool false]) ?_<|ac<|by rw [Array.eq_empty_of_size_eq_zero h2]; rfl
   simp [execOp,Y,J]
 · have I:aa.heap=w.heap:=by rcases O with rfl | rfl <;> rfl
   have V:Md (fun j=>j=r) w (setBlock aa r<|.mapIter (some b) c (seen.push e.born) c):=by
    refine ⟨?_,?_,?_,fun j _ ah=> ?_⟩
    · rcases O with rfl | rfl <;> rfl
    · rcases O with rfl | rfl <;> rfl
    · simp [setBlock,I]
    · simp only [setBlock,I]; rw [wa (fun e=>ah e.symm)]
   have ai:r≠b:=fun h=>by subst h; rw [G] at A; cases A
   refine np (v:= .tuple #[.bool true,e.key,e.val]) ?_ (h1 (e.key,e.val) _ _ (by have :=(Z2 E.nd he).map (fun e=>(e.key,e.val)); exact this) V ⟨es,c,seen,e,?_,?_,E,ag,?_,ag⟩)
   · simp [execOp,Y,J]
   · simp only [setBlock,I]; rw [wc (dT.1 G).1]
   · rw [V.dJ b (dT.1 A).1 (fun h=>ai h.symm)]; exact A
   · unfold leftOf at he;rw [BN] at he;exact (List.mem_filter.1 he).1
def NB (b:Bool) (A:Value×Value):Value:=match b with | true => .tuple #[.bool true,A.1,A.2] | false => .tuple #[.bool false]
theorem nxe {A:Bool} {E:Value×Value} (C:ev N σ x=NB A E):(execOp (ev N σ) ⟨dst,.extract x 0,ty,pos,af,g⟩).run P w= .ok (.value<|.bool A) w:=by
 cases A
 · exact xt C ag
 · exact xt C ag
theorem nxb {r:Nat} {left :List (Value×Value)} (hm:qU w.heap r b left) (I:ev N σ x= .pointer (some ⟨r,0,none⟩))
 (h:∀ E A C w',(E=false→left = []∧w'=w)→(E=true→left.Perm (A::C)∧Md (fun j=>j=r) w w'∧wW w'.heap r b C A)→K (gK σ dst<|NB E A) w'):
 dW P N ⟨dst,.next x false,ty,pos,af,g⟩ σ w K:=
 nxm hm I (fun G=>h false (.nilFunc,.nilFunc) [] w (fun _=>⟨G,rfl⟩) fun h=>by cases h) (fun A C w' h1 h2 h3=>h true A C w' (fun h=>by cases h) fun _=>⟨h1,h2,h3⟩)
theorem dQ {r:Nat} {left :List (Value×Value)} {A:Value×Value} (hm:wW w.heap r b left A) (C:ev N σ x= .pointer (some ⟨r,0,none⟩)):
 (execOp (ev N σ) ⟨dst,.entry x,ty,pos,af,g⟩).run P w= .ok (.value<|.tuple #[A.1,A.2]) w:=by
 obtain ⟨es,c,seen,e,h1,h2,h3,_,h5,rfl⟩:=hm;have :=run_entry_at (P:=P) w r b c seen es c e h1 h2 h5 h3.nd;simp [execOp,C,this]
end
end Go.Hb
end
section
namespace Go.Hb
abbrev Tl:=List<|List UInt8
def Eu:Tl→List (UInt8×Tl)
 | []=> []
 | []::ts=>Eu ts
 | (c::t)::ts=>match Eu ts with
   | []=> [(c,[t])]
   | (A,g)::r=>if c=A then (c,t::g)::r else (c,[t])::(A,g)::r
def Zx (A:Tl):Bool:=match A with | []::_=>true | _=>false
def WG (A:Tl):Tl:=match A with | []::r=>r | r=>r
structure VS where
 known:List Tl
 sts:List (Bool×List (UInt8×Nat))
def VS.add (s:VS) (A:Tl):VS:=⟨s.known++ [A],s.sts++ [(false,[])]⟩
end Go.Hb
namespace Go.Hb
end Go.Hb
namespace Go.Hb
abbrev Rl:=Bool×List (UInt8×Nat)
end Go.Hb
namespace Go.Hb
end Go.Hb
namespace Go.Hb
def WO (A:List Tl) (p:UInt8×Tl):UInt8×Nat:=(p.1,A.idxOf p.2+1)
def enc (A:List Tl) (L:Tl):Rl:=(Zx L,(Eu<|WG L).map (WO A))
end Go.Hb
namespace Go.Hb
end Go.Hb
namespace Go.Hb
end Go.Hb
namespace Go.Hb
theorem ad5 {l:Tl} (h:l.Pairwise (fun x y=>fy x y=true)):l.Nodup:=h.imp fun {a b} A he=>by rw [he,yh] at A; cases A
theorem GD:∀ {l C:Tl},l.Pairwise (fun x y=>fy x y=true)→C.Pairwise (fun x y=>fy x y=true)→(∀ x,x∈l↔x∈C)→l=C
 | [],[],_,_,_=>rfl
 | [],y::C,_,_,h=>absurd ((h y).2<|by simp)<|by simp
 | x::l,[],_,_,h=>absurd ((h x).1<|by simp)<|by simp
 | x::l,y::C,h1,h2,h=>by
   rw [lz] at h1 h2;have e:x=y:=by
    rcases eL.1 ((h x).1<|by simp) with e | G
    · exact e
    · rcases eL.1 ((h y).2<|by simp) with e | I
      · exact e.symm
      · have h3:=h1.1 y I;have h4:=h2.1 x G;rw [A5 h3] at h4; cases h4
   subst e;rw [GD h1.2 h2.2 fun z=> ?_];constructor
   · intro A;rcases eL.1 ((h z).1<|by simp [A]) with e | E
     · subst e; have :=h1.1 z A; rw [yh] at this; cases this
     · exact E
   · intro A;rcases eL.1 ((h z).2<|by simp [A]) with e | E
     · subst e; have :=h2.1 z A; rw [yh] at this; cases this
     · exact E
def sD (x:List UInt8):Tl→Tl
 | []=> [x]
 | y::l=>if fy x y then x::y::l else if x=y then y::l else y::sD x l
def lu (l:Tl):Tl:=l.foldr sD []
theorem E3 {x y:List UInt8} :∀ {l:Tl},y∈sD x l↔y=x∨y∈l
 | []=>by simp [sD]
 | z::l=>by
   simp only [sD];split
   · simp
   · split
     · rename_i h; subst h; simp
     · simp only [eL,E3 (l:=l)];constructor
       · rintro (h | h | h)
         · exact .inr<|.inl h
         · exact .inl h
         · exact .inr<|.inr h
       · rintro (h | h | h)
         · exact .inr<|.inl h
         · exact .inl h
         · exact .inr<|.inr h
theorem Ms {x:List UInt8} :∀ {l:Tl},l.Pairwise (fun x y=>fy x y=true)→(sD x l).Pairwise (fun x y=>fy x y=true)
 | [],_=>List.pairwise_singleton _ _
 | y::l,h=>by
   simp only [sD];have E:=lz.1 h;split
   · rename_i C;refine lz.2 ⟨fun z A=> ?_,h⟩;rcases eL.1 A with rfl | A
     · exact C
     · exact tT C<|E.1 z A
   · rename_i C;split
     · exact h
     · rename_i he;refine lz.2 ⟨fun z A=> ?_,Ms E.2⟩;rcases E3.1 A with rfl | A
       · rcases tS z y with h3 | h3 | h3
         · exact absurd h3 C
         · exact absurd h3 he
         · exact h3
       · exact E.1 z A
theorem vG (l:Tl):(lu l).Pairwise (fun x y=>fy x y=true):=by
 induction l with
 | nil=>exact List.Pairwise.nil
 | cons x l A=>exact Ms A
theorem vA {x:List UInt8} {l:Tl} :x∈lu l↔x∈l:=by
 induction l with
 | nil=>rfl
 | cons y l A=>
   show x∈sD y (lu l)↔_;rw [E3,A,eL]
theorem Ot {l m:Tl} (h:m.Pairwise (fun x y=>fy x y=true)) (hm:∀ x,x∈m↔x∈l):m=lu l:=GD h (vG l) fun x=>(hm x).trans vA.symm
theorem Ou (l:Tl):(lu l).length≤l.length:=List.Nodup.length_le_of_subset (ad5<|vG l) fun _ A=>vA.1 A
theorem Pt {l:Tl} {x:List UInt8} (h:l.Pairwise (fun x y=>fy x y=true)) (E:∀ t∈l,fy t x=true):(l++ [x]).Pairwise (fun x y=>fy x y=true):=by
 rw [List.pairwise_append];exact ⟨h,by simp,fun a C b A=>by simp only [gD] at A; subst A; exact E a C⟩
theorem E4 {l:Tl} {i:Nat} (hi:i < l.length) {x:List UInt8} :x∈l.take (i+1)↔x∈l.take i∨x=l.getD i []:=by
 rw [fX l i [] hi]; simp
structure MG (la lb:Tl) (i j:Nat) (m:Tl):Prop where
 up:m.Pairwise (fun x y=>fy x y=true)
 mem:∀ x,x∈m↔x∈la.take i∨x∈lb.take j
 ma:∀ x∈m,i < la.length→fy x (la.getD i [])=true
 mb:∀ x∈m,j < lb.length→fy x (lb.getD j [])=true
 len:m.length≤i+j
theorem MG.zero (A C:Tl):MG A C 0 0 []:=⟨List.Pairwise.nil,fun x=>by simp,fun x h=>by simp at h,fun x h=>by simp at h,by simp⟩
theorem MG.a {C G m:Tl} {i j:Nat} (h:MG C G i j m) (O:C.Pairwise (fun x y=>fy x y=true)) (hi:i < C.length) (I:j < G.length→fy (C.getD i []) (G.getD j [])=true):MG C G (i+1) j (m++ [C.getD i []]):=by
 refine ⟨Pt h.up (fun t J=>h.ma t J hi),fun x=> ?_,fun x A E=> ?_,fun x A E=> ?_,by have :=h.len; simp; omega⟩
 · rw [gq,h.mem,E4 hi,gD];constructor
   · rintro ((h | h) | h)
     · exact .inl<|.inl h
     · exact .inr h
     · exact .inl<|.inr h
   · rintro ((h | h) | h)
     · exact .inl<|.inl h
     · exact .inr h
     · exact .inl<|.inr h
 · have h1:=FF O (show i < i+1 by omega) E;rcases gq.1 A with A | A
   · exact tT (h.ma x A hi) h1
   · simp only [gD] at A; subst A; exact h1
 · rcases gq.1 A with A | A
   · exact h.mb x A E
   · simp only [gD] at A; subst A; exact I E
theorem MG.b {C E m:Tl} {i i2 j:Nat} (h:MG C E i j m) (V:C.Pairwise (fun x y=>fy x y=true)) (Y:E.Pairwise (fun x y=>fy x y=true)) (I:j < E.length) (J:i < C.length→fy (C.getD i []) (E.getD j [])=false)
 (h2:(i2=i∧(i < C.length→C.getD i []≠E.getD j []))∨(i2=i+1∧i < C.length∧C.getD i []=E.getD j [])):MG C E i2 (j+1) (m++ [E.getD j []]):=by
 refine ⟨Pt h.up (fun t O=>h.mb t O I),fun x=> ?_,fun x A G=> ?_,fun x A G=> ?_,by have :=h.len; simp; rcases h2 with h2 | h2 <;> omega⟩
 · rw [gq,h.mem,E4 I,gD];rcases h2 with ⟨rfl,_⟩ | ⟨rfl,h3,h4⟩
   · exact or_assoc
   · rw [E4 h3,h4];constructor
     · rintro ((h | h) | h)
       · exact .inl<|.inl h
       · exact .inr<|.inl h
       · exact .inr<|.inr h
     · rintro ((h | h) | h | h)
       · exact .inl<|.inl h
       · exact .inr h
       · exact .inl<|.inr h
       · exact .inr h
 · rcases h2 with ⟨rfl,h3⟩ | ⟨rfl,h3,h4⟩
   · rcases gq.1 A with A | A
     · exact h.ma x A G
     · simp only [gD] at A; subst A;rcases tS (E.getD j []) (C.getD i2 []) with h5 | h5 | h5
       · exact h5
       · exact absurd h5.symm<|h3 G
       · rw [J G] at h5; cases h5
   · have h1:=FF V (show i < i+1 by omega) G;rcases gq.1 A with A | A
     · exact tT (h.ma x A h3) h1
     · simp only [gD] at A; subst A; rw [← h4]; exact h1
 · have h1:=FF Y (show j < j+1 by omega) G;rcases gq.1 A with A | A
   · exact tT (h.mb x A I) h1
   · simp only [gD] at A; subst A; exact h1
theorem MG.done {A C m:Tl} {i j:Nat} (h:MG A C i j m) (hi:A.length≤i) (E:C.length≤j):m=lu (A++C):=
 Ot h.up fun x=>by rw [h.mem,eK hi,eK E,gq]
end Go.Hb
end
namespace Go.Hb
def vS:Tx:= [83,70,88,32,65,32,89,32,49,10,83,70,88,32,65,32,48,32,115,10]
def BD:Tx:= [50,10,103,97,115,10,103,97,47,65,10]
def il:aX:=⟨1,[],[],[0,0,0,0,0],3,[],[],[⟨65,2,true,0,1⟩],[⟨2,65,true,[],[115],[46],[],2⟩]⟩
def jS:List bE:= [([103,97,115],[]),([103,97],[65])]
theorem aei:cx vS= [(1,[[83,70,88],[65],[89],[49]]),(2,[[83,70,88],[65],[48],[115]])]:=by decide+kernel
theorem aej:cx BD= [(1,[[50]]),(2,[[103,97,115]]),(3,[[103,97,47,65]])]:=by decide+kernel
theorem aek {s:Tx} {ln:Nat} (hw:bK s=(s,[],false,0)) (A:s≠[48]) (C:iy s=0):gy 1 [] ⟨65,2,true,0,1⟩ ln [[83,70,88],[65],[48],s]= .ok ⟨2,65,true,[],s,[46],[],ln⟩:=by
 unfold gy;rw [if_neg (by simp)];simp only [mq,QJ];rw [show eW true [48]= .ok [] from if_pos ⟨rfl,rfl⟩,hw];simp only;rw [show km (s,[],false,0)= .ok s from by unfold km; rw [if_neg (by simp),if_neg A,if_neg (by simp [C])]];rfl
theorem aeb:ga vS= .ok il:=by
 unfold ga;rw [if_neg aM,aei];simp only [db,gC];have E:cW ((bU vS).length+1) jb [] [(2,[[83,70,88],[65],[48],[115]])] 1 [[83,70,88],[65],[89],[49]]= .ok (il,[]):=by
  unfold cW;simp only [mq];rw [if_neg aM,if_neg aM,if_neg aM,if_neg aM,if_neg aM,if_neg aM,if_neg aM];unfold iu;simp only [mq,QJ];rw [aes];simp only;rw [if_neg (by simp),Nz (b:=49) aM aM];simp only;rw [if_neg aM];have C:∀ b,b=true→group [[83,70,88],[65]] (gy jb.kind jb.aliases ⟨65,if ([83,70,88]:Tx)=dG then 2 else 1,b,jb.rules.length,Re 49 - 48⟩) ((bU vS).length+1) (Re 49 - 48) [(2,[[83,70,88],[65],[48],[115]])]= .ok (il.rules,[]):=by
   intro b A;subst A;show group [[83,70,88],[65]] (gy 1 [] ⟨65,2,true,0,1⟩) _ 1 _=_;rw [group,if_neg aM,aek (by decide+kernel) aM aM];rfl
  rw [C _ (by simp)];simp only [decide_true];rfl
 rw [iH];simp only [mq];rw [if_neg aM,if_neg aM,if_neg aM,E];simp only;rw [iH];rfl
theorem aef:fV il BD= .ok jS:=by
 have C:gF il [[103,97,47,65]]= .ok ([103,97],[65]):=by
  have hw:bK [103,97,47,65]=([103,97],[65],true,0):=by decide+kernel
  refine (DD (row:= [[103,97,47,65]]) (set := [65]) ag ?_ ?_ ?_ ?_ ?_ ?_ ?_).trans ?_
  all_goals try simp only [mq,hw]
  · decide
  · decide
  · simp
  · show gJ 1 [] [65]=_;unfold gJ; rw [if_pos rfl]; exact aet
  · intro i hi;have :i=0:=by simpa using hi
    subst this; decide
 have A:gF il [[103,97,115]]= .ok ([103,97,115],[]):=by
  have hw:bK [103,97,115]=([103,97,115],[],false,0):=by decide+kernel
  unfold gF;simp only [mq,hw];rw [if_neg (by simp),if_neg (by simp),if_neg aM,if_neg aM,if_pos trivial]
 have hn:fF [50] 8192= .ok 2:=Nz aM aM;rw [Kf aM aej rfl (show fF ([[50]].getD 0 []) 8192= .ok 2 from hn),fJ,A];simp only;rw [fJ,C];simp only;rw [fJ];rfl
theorem aec:eO ⟨2,65,true,[],[115],[46],[],2⟩ [103,97]=some [103,97,115]:=by
 have A:dE [46]=([],0):=by unfold dE; rw [if_neg (by simp),if_pos rfl]
 unfold eO iz;simp only [A];rw [if_pos (by simp only [if_true,gC]; rfl)];rfl
def BE:List bO:= [⟨[103,97,115],0,-1,-1,-1⟩,⟨[103,97,115],1,0,-1,-1⟩]
theorem aed:kg il jS 0= [⟨[103,97,115],0,-1,-1,-1⟩]:=by
 have h1:bq il (flagsOf jS (0:Nat)) 1= []:=aM;have h2:bq il (flagsOf jS (0:Nat)) 2= []:=aM;unfold kg iL;rw [h1,h2];simp only [Hn,eJ,List.filterMap_nil];unfold oE;rw [if_pos aM];rfl
theorem aee:kg il jS 1= [⟨[103,97],1,-1,-1,-1⟩,⟨[103,97,115],1,0,-1,-1⟩]:=by
 have h1:bq il (flagsOf jS (1:Nat)) 1= []:=aM;have h2:bq il (flagsOf jS (1:Nat)) 2= [0]:=aM;have h3:bq il (cH il (0:Nat)) 2= []:=aM;have A:∀ w f s,iL il jS 1 w f s=oE il jS 1 w f s:=fun w f s=>by unfold iL; rw [h1]; simp
 unfold kg;rw [h2,A];simp only [kI,Hn,eJ];unfold mh;rw [show eO (il.rules.getD 0 dU) (jS.getD 1 ([],[])).1=some [103,97,115] from aec];simp only [h3,Hn,eJ,A];unfold oE;rw [if_pos aM,if_pos aM];rfl
end Go.Hb
section
namespace Go.Hb.eX
open Go.Proofs
def lQ (l:List (Tx×Tx)):List Value:=l.flatMap fun p=> [str p.1,str p.2]
def pF (c:dD):List Value:= [bA c.flag,.int .i64 (c.kind:Nat),.bool c.eQ,.int .i64 (c.first:Nat),.int .i64 (c.count:Nat)]
def oF (l:List dD):List Value:=l.flatMap pF
def fk (q:dd×Value):List Value:= [.int .i64 (q.1.kind:Nat),bA q.1.flag,.bool q.1.eQ,str q.1.strip,str q.1.add,str q.1.cond,q.2]
def iQ (l:List (dd×Value)):List Value:=l.flatMap fk
structure dI where
 rb:Nat
 fb:Nat
 ms:Nat
 mt:Nat
 mc:Nat
 eof:Nat
structure fN where
 v9:Value
 v10:Value
 v11:Value
 v12:Value
 sa:List Value
 rn:List Value
structure iX where
 vr:Value
 vs:List (Nat×Value)
 vn:Value
def qm (F:aX) (V:fN) (mc:Nat):List Value:= [.int .i64 (F.kind:Nat),str F.tA,str F.tr,bA (F.sp.getD 0 0),bA (F.sp.getD 1 0),bA (F.sp.getD 2 0),bA (F.sp.getD 3 0),bA (F.sp.getD 4 0),.int .i64 (F.least:Nat),V.v9,V.v10,V.v11,V.v12,.map (some mc)]
def yb (H:dI) (R:iX) (ln:Nat):List Value:= [.pointer (some ⟨H.fb,0,none⟩),R.vr,.int .i64 (ln:Nat),.int .i64 (H.eof:Nat),.map (some H.ms),.map (some H.mt),R.vn]
structure eu (w:World) (B fb mc:Nat) (F:aX) (V:fN):Prop where
 cells:w.heap[fb]? =some (.cells (qm F V mc).toArray 164 (0,0))
 o9:bB w B 189 2 V.v9 F.dF.length (lQ F.dF)
 fD:bB w B 51 1 V.v10 F.aliases.length V.sa
 al:eU w B 95 V.sa F.aliases
 eS:bB w B 192 5 V.v11 F.bG.length (oF F.bG)
 dR:bB w B 134 7 V.v12 F.rules.length (iQ<|F.rules.zip V.rn)
 nx:eU w B 95 V.rn (F.rules.map (·.next))
 cm:∃ f,dq w.heap mc (lf .u16) f∧∀ x:Nat,f (bA x)=(F.bG.findIdx? fun c=>decide (c.flag=x)).map fun i:Nat=>Value.int .i64 i
 lo:B≤fb∧B≤mc
 gG:F.sp.length=5
theorem eu.md {G:Nat→Prop} {w w':World} {B fb mc:Nat} {F:aX} {V:fN} (h:eu w B fb mc F V) (hm:Md G w w') {L:List Nat} (A:TF w L G) (C:(L.contains 166 || L.contains 191 || L.contains 53 || L.contains 97 || L.contains 194 || L.contains 136)=false) (Y:¬G mc):eu w' B fb mc F V:=by
 simp only [oY] at C;obtain ⟨⟨⟨⟨⟨h1,h2⟩,h3⟩,h4⟩,h5⟩,h6⟩:=C;have E:∀ k,G k→∀ cur z,w.heap[k]?≠some (.cells cur 95 z):=fun k hk cur z O=>A.no (dS O) h4 hk;obtain ⟨f,I,J⟩:=h.cm;exact ⟨hm.jd A h.cells h1,c7 h.o9 hm A h2,c7 h.fD hm A h3,h.al.md hm E,c7 h.eS hm A h5,c7 h.dR hm A h6,h.nx.md hm E,⟨f,I.md hm Y,J⟩,h.lo,h.gG⟩
theorem eu.wk {w w':World} {B fb mc:Nat} {F:aX} {V:fN} (h:eu w B fb mc F V) (hm:Wk w w'):eu w' B fb mc F V:=h.md (L:= []) hm (fun _ hk=>hk.elim) rfl id
structure dP (w:World) (B:Nat) (H:dI) (F:aX) (R:iX) (rows:List Rw) (ln:Nat) (seen:List Tx):Prop where
 cells:w.heap[H.rb]? =some (.cells (yb H R ln).toArray 167 (0,0))
 rws:nz w B 181 rows.length R.vr (lr R.vs)
 rt:ja w B 9 R.vs rows
 sm:∃ f,dq w.heap H.ms j5 f∧∀ s:Tx,(f<|str s).getD (.int .i64 0)= .int .i64 (seen.count s:Nat)
 tm:∃ f,dq w.heap H.mt (lf .u16) f∧∀ x:Nat,x≠0→(f<|bA x).getD (.int .i64 0)= .int .i64 ((if e8 F x=true then 1 else 0:Nat):Nat)
 on :bB w B 3 1 R.vn F.rules.length (F.rules.map fun r=>Value.int .i64 (r.line:Nat))
 lo:B≤H.rb∧B≤H.ms∧B≤H.mt
 ne:H.ms≠H.mt∧H.ms≠H.mc∧H.mt≠H.mc
theorem dP.md {G:Nat→Prop} {w w':World} {B:Nat} {H:dI} {F:aX} {R:iX} {rows:List Rw} {ln:Nat} {seen:List Tx} (h:dP w B H F R rows ln seen) (hm:Md G w w') {L:List Nat} (A:TF w L G) (E:(L.contains 169 || L.contains 183 || L.contains 11 || L.contains 5)=false) (Y:¬G H.ms) (Z:¬G H.mt):dP w' B H F R rows ln seen:=by
 simp only [oY] at E;obtain ⟨⟨⟨h1,h2⟩,h3⟩,h4⟩:=E;obtain ⟨f,I,J⟩:=h.sm;obtain ⟨g,O,V⟩:=h.tm;exact ⟨hm.jd A h.cells h1,h.rws.md hm (fun k hk cur z C=>A.no (dS C) h2 hk),h.rt.md hm (fun k hk cur z C=>A.no (dS C) h3 hk),⟨f,I.md hm Y,J⟩,⟨g,O.md hm Z,V⟩,c7 h.on hm A h4,h.lo,h.ne⟩
theorem dP.wk {w w':World} {B:Nat} {H:dI} {F:aX} {R:iX} {rows:List Rw} {ln:Nat} {seen:List Tx} (h:dP w B H F R rows ln seen) (hm:Wk w w'):dP w' B H F R rows ln seen:=h.md (L:= []) hm (fun _ hk=>hk.elim) rfl id id
theorem dP.dH {w:World} {B:Nat} {H:dI} {F:aX} {R:iX} {rows:List Rw} {ln:Nat} {seen:List Tx} (h:dP w B H F R rows ln seen):Hb.a7 w.heap H.rb 2=some (.int .i64 (ln:Nat)):=(bo h.cells).trans rfl
structure lB (F:aX) (rows:List Rw) (seen:List Tx):Prop where
 len:F.dF.length+F.aliases.length+F.bG.length+F.rules.length+rows.length≤70000
 sl:seen.length+rows.length≤70000
 row:∀ q∈rows,q.2≠[]∧q.2.length≤70000∧∀ x∈q.2,x.length≤70000
 kd:F.kind=1∨F.kind=2∨F.kind=3
 al:∀ l∈F.aliases,l.length≤64∧l.Pairwise (· < ·)
def St (w:World) (B:Nat) (H:dI) (F:aX) (rows:List Rw) (ln:Nat) (seen:List Tx):Prop := ∃ V R,eu w B H.fb H.mc F V∧dP w B H F R rows ln seen∧lB F rows seen
abbrev gu (B:Nat) (H:dI) (w w':World):Prop :=Mw [169,166,191,53,194,136,5] H.ms H.mt H.mc B w w'
theorem dP.ea {w w':World} {B:Nat} {H:dI} {F:aX} {R R':iX} {rows rows':List Rw} {ln ln':Nat} {seen:List Tx} (h:dP w B H F R rows ln seen) (hm:Md (fun k=>k=H.rb) w w') (I:w'.heap[H.rb]? =some (.cells (yb H R' ln').toArray 167 (0,0))) (Z:R'.vn=R.vn) (V:nz w B 181 rows'.length R'.vr (lr R'.vs)) (Y:ja w B 9 R'.vs rows'):dP w' B H F R' rows' ln' seen:=by
 obtain ⟨f,E,J⟩:=h.sm;obtain ⟨g,G,O⟩:=h.tm;have A:TF w [169] (fun k=>k=H.rb):=TF.eq (dS h.cells) aM;exact ⟨I,V.md hm (fun k hk cur z C=>A.no (dS C) aM hk),Y.md hm (fun k hk cur z C=>A.no (dS C) aM hk),⟨f,E.md hm (A.no (e5 E) aM),J⟩,⟨g,G.md hm (A.no (e5 G) aM),O⟩,Z ▸ c7 h.on hm A aM,h.lo,h.ne⟩
theorem ja.tl {w:World} {B e:Nat} {q:Nat×Value} {r:Rw} {vs:List (Nat×Value)} {rs:List Rw} (h:ja w B e (q::vs) (r::rs)):ja w B e vs rs:=⟨by have :=h.1; simpa using this,fun i A C h1 h2=>h.2 (i+1) A C h1 h2⟩
theorem eu.put {w w':World} {B fb mc:Nat} {F F':aX} {V:fN} (h:eu w B fb mc F V) (hm:Md (fun k=>k=fb) w w') (G:w'.heap[fb]? =some (.cells (qm F' V mc).toArray 164 (0,0))) (h1:F'.dF=F.dF) (h2:F'.aliases=F.aliases) (h3:F'.bG=F.bG) (h4:F'.rules=F.rules) (h5:F'.sp.length=5):eu w' B fb mc F' V:=by
 have A:TF w [166] (fun k=>k=fb):=TF.eq (dS h.cells) aM;have E:∀ k,k=fb→∀ cur z,w.heap[k]?≠some (.cells cur 95 z):=gk h.cells aM;obtain ⟨f,C,I⟩:=h.cm;exact ⟨G,h1 ▸ c7 h.o9 hm A aM,h2 ▸ c7 h.fD hm A aM,h2 ▸ h.al.md hm E,h3 ▸ c7 h.eS hm A aM,h4 ▸ c7 h.dR hm A aM,h4 ▸ h.nx.md hm E,⟨f,C.md hm (A.no (e5 C) aM),h3 ▸ I⟩,h.lo,h5⟩
theorem dP.fb {w w':World} {B:Nat} {H:dI} {F C:aX} {V:fN} {R:iX} {rows:List Rw} {ln:Nat} {seen:List Tx} (h:dP w B H F R rows ln seen) (E:eu w B H.fb H.mc C V) (hm:Md (fun k=>k=H.fb) w w'):dP w' B H F R rows ln seen:=by
 have A:TF w [166] (fun k=>k=H.fb):=TF.eq (dS E.cells) aM;obtain ⟨f,G,J⟩:=h.sm;obtain ⟨g,I,O⟩:=h.tm;exact h.md hm A aM (A.no (e5 G) aM)<|A.no (e5 I) aM
theorem eu.rb {w w':World} {B:Nat} {H:dI} {F A:aX} {V:fN} {R:iX} {rows:List Rw} {ln:Nat} {seen:List Tx} (h:eu w B H.fb H.mc A V) (E:dP w B H F R rows ln seen) (hm:Md (fun k=>k=H.rb) w w'):eu w' B H.fb H.mc A V:=by
 have C:TF w [169] (fun k=>k=H.rb):=TF.eq (dS E.cells) aM;obtain ⟨f,G,I⟩:=h.cm;exact h.md hm C aM<|C.no (e5 G) aM
theorem dP.congr {w:World} {B:Nat} {H:dI} {F F':aX} {R:iX} {rows:List Rw} {ln:Nat} {seen:List Tx} (h:dP w B H F R rows ln seen) (E:F'.rules=F.rules) (hd:∀ x,e8 F' x=e8 F x):dP w B H F' R rows ln seen:=by
 obtain ⟨g,A,C⟩:=h.tm;exact ⟨h.cells,h.rws,h.rt,h.sm,⟨g,A,fun x G=>by rw [hd]; exact C x G⟩,E ▸ h.on,h.lo,h.ne⟩
theorem dP.xZ {w w':World} {B:Nat} {H:dI} {F F':aX} {R:iX} {rows:List Rw} {ln:Nat} {seen:List Tx} {f:Value→Option Value} (h:dP w B H F R rows ln seen) (hm:Md (fun k=>k=H.mt) w w') (E:dq w'.heap H.mt (lf .u16) f) (O:F'.rules=F.rules) (hd:∀ x:Nat,x≠0→(f<|bA x).getD (.int .i64 0)= .int .i64 ((if e8 F' x=true then 1 else 0:Nat):Nat)):dP w' B H F' R rows ln seen:=by
 obtain ⟨g,J,_⟩:=h.tm;obtain ⟨f0,G,I⟩:=h.sm;have A:TF w [1] (fun k=>k=H.mt):=TF.eq (e5 J) aM;exact ⟨hm.jd A h.cells aM,h.rws.md hm (fun k hk cur z C=>A.no (dS C) aM hk),h.rt.md hm (fun k hk cur z C=>A.no (dS C) aM hk),⟨f0,G.md hm h.ne.1,I⟩,⟨f,E,hd⟩,O ▸ c7 h.on hm A aM,h.lo,h.ne⟩
theorem eu.xZ {w w':World} {B:Nat} {H:dI} {F A:aX} {V:fN} {R:iX} {rows:List Rw} {ln:Nat} {seen:List Tx} (h:eu w B H.fb H.mc A V) (C:dP w B H F R rows ln seen) (hm:Md (fun k=>k=H.mt) w w'):eu w' B H.fb H.mc A V:=by
 obtain ⟨g,E,_⟩:=C.tm;exact h.md (L:= [1]) hm (TF.eq (e5 E) aM) aM fun h=>C.ne.2.2 h.symm
theorem gu.fb {w w':World} {B:Nat} {H:dI} {C:aX} {V:fN} (A:eu w B H.fb H.mc C V) (hm:Md (fun k=>k=H.fb) w w'):gu B H w w':=Mw.of hm (TF.eq (dS A.cells) aM) fun k hk=>hk ▸ A.lo.1
theorem gu.rb {w w':World} {B:Nat} {H:dI} {F:aX} {R:iX} {rows:List Rw} {ln:Nat} {seen:List Tx} (A:dP w B H F R rows ln seen) (hm:Md (fun k=>k=H.rb) w w'):gu B H w w':=Mw.of hm (TF.eq (dS A.cells) aM) fun k hk=>hk ▸ A.lo.1
theorem gu.mt {w w':World} {B:Nat} {H:dI} {F:aX} {R:iX} {rows:List Rw} {ln:Nat} {seen:List Tx} (A:dP w B H F R rows ln seen) (hm:Md (fun k=>k=H.mt) w w'):gu B H w w':=hm.mono fun k _ hk=>⟨hk ▸ A.lo.2.2,.inr<|.inl hk⟩
def kf (B:Nat) (H:dI) (seen:List Tx) (X:Except (Nat×Nat) (aX×List Rw)) (w:World) (v:Value) (w':World):Prop :=v= .tuple #[]∧∃ F' rows' ln',X= .ok (F',rows')∧St w' B H F' rows' ln' seen∧gu B H w w'
def ke (B:Nat) (H:dI) (X:Except (Nat×Nat) (aX×List Rw)) (w:World) (c:List PanicEntry) (w':World):Prop := ∃ l e,X= .error (l,e)∧c=j0 45 l (e:Nat)∧gu B H w w'
def k6 (F:aX) (seen:List Tx):Prop := ∀ k∈eF,k∉seen→F.sp.getD (eF.idxOf k) 0=0
theorem Wi {F:aX} {i x:Nat} (hi:i < F.sp.length) (A:F.sp.getD i 0=0) (y:Nat) (G:y≠0):e8 {F with sp:=F.sp.set i x} y=(decide (y=x) || e8 F y):=by
 unfold e8;show (decide (y∈F.sp.set i x) || _)=_;rw [← Bool.or_assoc];congr 1;rw [← Bool.decide_or,decide_eq_decide];constructor
 · intro h;rcases Hs h with h | h
   · exact .inr h
   · exact .inl h
 · rintro (h | h)
   · subst h; exact List.mem_set hi _
   · obtain ⟨j,E⟩:=ur h;by_cases C:i=j
     · subst C;rw [da,E] at A;exact absurd A G
     · exact gL (i:=j)<|by rw [lW,if_neg C]; exact E
theorem Tg.x3 {w:World} {B e E n cp b:Nat} {a:Option Addr} {xs:List Value} {cs:Array Value} {z:Nat×Nat} (h:Tg w B e n (.slice a n cp) xs) (V:xs≠[]) (A:w.heap[b]? =some (.cells cs E z)) (J:e≠E):¬(bk a=b):=by
 obtain ⟨Y,Z,O,_,I⟩:=h;cases O;rcases I with rfl | ⟨C,cur,z2,rfl,_,G,_⟩
 · exact absurd ag V
 · rintro rfl;rw [show (bk<|some ⟨C,0,none⟩)=C from rfl] at A;rw [G] at A;simp only [gM,yE] at A;exact J A.2.1
theorem XA {F:aX} {V:fN} {mc i o x:Nat} (h5:F.sp.length=5) (hi:i < 5) (A:o=3 +i):(qm F V mc).set o (bA x)=qm {F with sp:=F.sp.set i x} V mc:=by
 subst A;obtain ⟨k,cs,tr,sp,le,re,al,cl,ru⟩:=F
 match sp,h5 with
 | [a,b,c,d,e],_=>
   match i,hi with
   | 0,_=>rfl
   | 1,_=>rfl
   | 2,_=>rfl
   | 3,_=>rfl
   | 4,_=>rfl
theorem JZ (b:Bool):decide (((if b=true then 1 else 0:Nat):Int)=0)= !b:=by cases b <;> rfl
theorem Pj {x y:Nat} (h:bA x=bA y):x=y:=by unfold bA at h; injection h with _ h; omega
theorem O7 {F F':aX} {f:Value→Option Value} {x:Nat} (hd:e8 F x=false) (E:∀ y:Nat,y≠0→(f<|bA y).getD (.int .i64 0)= .int .i64 ((if e8 F y=true then 1 else 0:Nat):Nat)) (C:∀ y,y≠0→e8 F' y=(decide (y=x) || e8 F y)) (y:Nat) (A:y≠0):(bZ f (bA x) (.int .i64 (1:Nat))<|bA y).getD (.int .i64 0)= .int .i64 ((if e8 F' y=true then 1 else 0:Nat):Nat):=by
 rw [C y A];by_cases h:y=x
 · subst h; rw [oR]; simp
 · rw [mF (fun h2=>h<|Pj h2),E y A]; simp [h]
theorem jk {G:Nat→Prop} {w w':World} (h:Md G w.drew w'):Md G w w':=⟨h.os,h.output,h.size,h.dJ⟩
theorem eU.get {w:World} {B e i:Nat} {vs:List Value} {A:List (List Nat)} (h:eU w B e vs A) (hi:i < A.length):∃ v,vs[i]? =some v∧Tg w B e (A.getD i []).length v ((A.getD i []).map bA):=by
 have h1:i < vs.length:=by rw [h.1]; exact hi
 refine ⟨vs[i],cz h1,h.2 i _ _ (cz h1) ?_⟩;rw [da,cz hi]; rfl
theorem Tg.vD {w:World} {B e n cp:Nat} {a:Option Addr} {xs:List Value} (h:Tg w B e n (.slice a n cp) xs) (E:xs.length=n) (A:a=none):n=0:=by
 obtain ⟨I,O,G,_,C⟩:=h;cases G;rcases C with rfl | ⟨J,cur,z2,h2,_⟩
 · exact E.symm
 · rw [A] at h2; cases h2
theorem Tg.M3 {G:Nat→Prop} {w w':World} {B e n:Nat} {v:Value} {xs:List Value} (h:Tg w B e n v xs) (hm:Md G w w') (E:∀ k,G k→k < B):Tg w' B e n v xs:=by
 obtain ⟨a,cp,rfl,A,h | ⟨b,cur,z,rfl,I,C,J⟩⟩:=h
 · exact ⟨a,cp,ag,A,.inl h⟩
 · exact ⟨_,cp,ag,A,.inr ⟨b,cur,z,ag,I,by rw [hm.dJ b (dT.1 C).1 (fun hk=>by have :=E b hk; omega)]; exact C,J⟩⟩
end Go.Hb.eX
end
