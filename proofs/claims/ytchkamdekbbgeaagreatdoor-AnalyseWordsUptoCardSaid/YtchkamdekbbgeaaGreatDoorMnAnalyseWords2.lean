/-
  Walks and plain laws that the law rests on, laid together. No conditions but those that each theorem names.
-/
import Derived.Test.YtchkamdekbbgeaaGreatDoorMnAnalyseWords1
set_option linter.unusedVariables false
set_option maxRecDepth 20000
set_option maxHeartbeats 1000000
open Array renaming foldl_toList→Pb,getElem?_eq_some_iff→dO,getElem?_setIfInBounds_ne→vF,getElem?_setIfInBounds_self_of_lt→vG,length_toList→ye,range→rr,toArray_toList→Bn,toList_filter→Bo,toList_inj→Bp,toList_map→nR,toList_modify→Bq,toList_push→Ge
open Bool renaming and_eq_true→jl,eq_iff_iff→sI,noConfusion→ep,or_eq_false_iff→oP
open Classical renaming not_not→jM
open Except.ok renaming injEq→tO
open Go.Calls renaming mono→mu
open Go.CallsD renaming mono→Pl
open Go.Code renaming wp_mono→Pm
open Go.Deferred renaming ofValue→sJ
open Go.Extern.BytealgCount renaming count→ad3
open Go.Extern.BytealgIndexByte renaming indexByte→ad4
open Go.Extern renaming find→Ps,findNext→Pt
open Go.Fence renaming wide→ry
open Go.Instr renaming checkKey→pQ,entryStore→Pv,field→Pw,fill→nS,findKey→tQ,findNow→tR,keyThatStays→Gk,mapEntry→Gl,mapUpdate→Gm,sameBits→PA,sameNow→Gn,sliceAt→tS,sliceBounds→qu,sureAddr→sK,typeAssert→PB
open Go.Lib renaming indexByte→PC,run_clear_slice→PD
open Go.Obj.cells renaming injEq→yl
open Go.Oper renaming semAt_eq→PE,upon→my,uponIn→Bw,wp→kt
open Go.Program renaming underlying→PF
open Go.Region renaming Mode→tU,ready→kP
open Go.Result renaming andThen_ok→oQ
open Go.Rows renaming mono→Gy
open Go.Sem renaming run→tV,run_bind→oR,run_pure→rC
open Go.Value renaming agg→bV,ownBlock→jN,slice→bW
open Go.Value.slice renaming injEq→nT
open Go.World renaming alloc_heap_new→PN,frozen?→PO,ownsRow→bz,putObj_heap_other→Bz,putObj_heap_same→PQ,setCell→BA
open List.Pairwise renaming filter→ad6,imp→ad7
open List renaming append_assoc→eS,append_nil→eB,eq_nil_of_length_eq_zero→fR,ext_getElem?→qw,filterMap_cons→BD,filter_cons→qy,filter_eq_self→BE,flatMap_cons→ku,flatMap_map→P1,flatMap_nil→GJ,foldl_cons→sQ,getD_cons_succ→P2,getD_cons_zero→l6,getD_eq_getElem?_getD→cX,getElem?_append_left→ng,getElem?_append_right→nV,getElem?_cons_zero→vP,getElem?_eq_getElem→cx,getElem?_eq_some_iff→fL,getElem?_inj→GL,getElem?_map→gx,getElem?_modify→P4,getElem?_of_mem→tZ,getElem?_set→lK,getElem?_toArray→P6,length_append→bL,length_cons→cV,length_drop→fS,length_filter_le→sS,length_map→fP,length_nil→gB,length_replicate→pV,length_singleton→fu,length_take→dP,mapM_toArray→yA,map_append→gW,map_cons→sT,map_map→P8,mem_append→jm,mem_append_left→BI,mem_append_right→yB,mem_cons→fG,mem_cons_of_mem→nW,mem_cons_self→oS,mem_flatMap→rD,mem_map→jn,mem_map_of_mem→ub,mem_of_getElem?→gC,mem_or_eq_of_mem_set→GN,mem_range→pW,mem_singleton→iK,nil_append→qA,nodup_append→yC,nodup_cons→BK,not_mem_nil→vS,pairwise_lt_range→Qf,pairwise_map→Qg,range→gX,replicate→kR,size_toArray→qB,take_append→yD,take_of_length_le→e9,take_take→Qm,take_zero→mA,zipIdx_cons→BM
open Nat renaming add_sub_cancel→ud,ble→oT,blt→iL,le_of_ble_eq_true→sU,le_refl→cU,min_eq_left→qC,mul_le_mul_right→qD,mul_one→vV,succ_mul→rG,zero_le→hZ
open Option renaming bind_some→rH,map_eq_some_iff→nY,map_some→lL
open Option.some renaming inj→vW,injEq→gD
open Prod renaming fst→iN
open Prod.mk renaming injEq→ug
open UInt8 renaming toNat→Qw,toNat_inj→lM
open Go.Proofs.Tryz
open Go.RowKit

section
namespace Go.Hb
abbrev Tx:Type :=List UInt8
structure dy where
 flag:Nat
 kind:Nat
 eI:Bool
 first :Nat
 count:Nat
structure c7 where
 kind:Nat
 flag:Nat
 eI:Bool
 strip:Tx
 add:Tx
 cond:Tx
 next :List Nat
 line:Nat
structure aU where
 kind:Nat
 tg:Tx
 tr:Tx
 sp:List Nat
 least:Nat
 dA:List (Tx×Tx)
 aliases:List (List Nat)
 bE:List dy
 rules:List c7
def iV:Tx:= [70,76,65,71]
def jh:Tx:= [83,69,84]
def jt:Tx:= [84,82,89]
def kL:Tx:= [78,69,69,68,65,70,70,73,88]
def k6:Tx:= [70,79,82,66,73,68,68,69,78,87,79,82,68]
def lB:Tx:= [75,69,69,80,67,65,83,69]
def lZ:Tx:= [67,79,77,80,79,85,78,68,70,76,65,71]
def ml:Tx:= [78,79,83,85,71,71,69,83,84]
def kK:Tx:= [67,79,77,80,79,85,78,68,77,73,78]
def fK:Tx:= [82,69,80]
def eX:Tx:= [65,70]
def ga:Tx:= [80,70,88]
def dB:Tx:= [83,70,88]
def tu:Tx:= [115,104,111,114,116]
def u6:Tx:= [108,111,110,103]
def xz:Tx:= [110,117,109]
def ez:List Tx:= [kL,k6,lB,lZ,ml]
def width (k:Tx):Nat:=if k∈ez∨k=iV∨k=jh∨k=jt∨k=kK∨k=fK∨k=eX then 2 else if k=ga∨k=dB then 4 else 0
def ij (w:Tx):Nat:=if w= []∨gQ w=false then 21 else if 32 < w.length then 22 else 0
def eO (none:Bool) (fd:Tx):Except Nat Tx:=
 if none=true∧fd= [48] then .ok []
 else if (bF fd).2.2.2≠0 then .error (bF fd).2.2.2
 else if (bF fd).2.2.1=true then .error 114
 else if ij (bF fd).1≠0 then .error (ij (bF fd).1)
 else .ok (bF fd).1
def ej (cs:List dy) (x:Nat):Option dy:=cs.find? fun c=>decide (c.flag=x)
def eV (f:aU) (x:Nat):Bool:=decide (x∈f.sp) || (ej f.bE x).isSome
noncomputable def im (f:aU) (s:Tx):Except Nat Nat:=
 if (iD f.kind s).2≠0 then .error (iD f.kind s).2 else if eV f (iD f.kind s).1=true then .error 115 else .ok (iD f.kind s).1
noncomputable def lz (kind:Nat) (s:Tx):Except Nat (List Nat):=if (eu kind s).2≠0 then .error (eu kind s).2 else .ok (eu kind s).1
noncomputable def fw (s:Tx) (most:Int):Except Nat Nat:=if (ew s most).2≠0 then .error 13 else .ok (ew s most).1
noncomputable def gA (kind:Nat) (al:List (List Nat)) (s:Tx):Except Nat (List Nat):=
 if al= [] then lz kind s
 else match fw s al.length with
  | .error _=> .error 13
  | .ok n=>if n=0 then .error 13 else .ok (al.getD (n - 1) [])
noncomputable def lD (kind:Nat) (al:List (List Nat)) (A:Nat) (r:l9):Except Nat (List Nat):=
 if r.2.2.1=true then (if A=1 then .error 118 else gA kind al r.2.1) else .ok []
def lx (row:List Tx):Except Nat Tx:=
 if row.length=5 then (if gQ (row.getD 4 [])=false then .error 21 else if (dz<|row.getD 4 []).2≠0 then .error (dz<|row.getD 4 []).2 else .ok (mV (dz<|row.getD 4 []).1)) else .ok [46]
def j8 (r:l9):Except Nat Tx:=if r.2.2.2≠0 then .error r.2.2.2 else if r.1= [48] then .ok [] else if ij r.1≠0 then .error (ij r.1) else .ok r.1
noncomputable def gd (kind:Nat) (al:List (List Nat)) (c:dy) (ln:Nat) (row:List Tx):Except Nat c7:=
 if row.length≠4∧row.length≠5 then .error 111
 else match eO true (row.getD 2 []) with
  | .error e=> .error e
  | .ok st=>match j8 (bF<|row.getD 3 []) with
    | .error e=> .error e
    | .ok ad=>match lD kind al c.kind (bF<|row.getD 3 []) with
      | .error e=> .error e
      | .ok nx=>match lx row with
        | .error e=> .error e
        | .ok cd=> .ok ⟨c.kind,c.flag,c.eI,st,ad,cd,nx,ln⟩
def lf (ln:Nat) (row:List Tx):Except Nat (Tx×Tx):=
 if row.length≠3 then .error 111
 else match eO false (row.getD 1 []) with
  | .error e=> .error e
  | .ok a=>match eO true (row.getD 2 []) with
    | .error e=> .error e
    | .ok b=> .ok (a,b)
noncomputable def kX (kind:Nat) (ln:Nat) (row:List Tx):Except Nat (List Nat):=if row.length≠2 then .error 111 else lz kind (row.getD 1 [])
def group {α:Type} (hd:List Tx) (rd:Nat→List Tx→Except Nat α) (eof:Nat):Nat→List Rw→Except (Nat×Nat) (List α×List Rw)
 | 0,rows=> .ok ([],rows)
 | _+1,[]=> .error (eof,116)
 | n+1,(ln,row)::rows=>if row.take hd.length≠hd then .error (ln,116) else match rd ln row with
   | .error e=> .error (ln,e)
   | .ok x=>match group hd rd eof n rows with
     | .error e=> .error e
     | .ok r=> .ok (x::r.1,r.2)
def j5 (s:Tx):Nat:=if s=tu then 1 else if s=u6 then 2 else if s=xz then 3 else 0
def ordered (hs:List Tx):Bool:= !hs.any fun h=>decide (h∈ez∨h=eX∨h=ga∨h=dB)
noncomputable def ic (eof:Nat) (f:aU) (rows:List Rw) (ln:Nat) (row:List Tx):Except (Nat×Nat) (aU×List Rw):=
 match im f (row.getD 1 []) with
 | .error e=> .error (ln,e)
 | .ok x=>if row.getD 2 []≠[89]∧row.getD 2 []≠[78] then .error (ln,114)
   else match fw (row.getD 3 []) 1024 with
    | .error e=> .error (ln,e)
    | .ok n=>if 1024 < f.rules.length+n then .error (ln,117)
      else match group [row.getD 0 [],row.getD 1 []] (gd f.kind f.aliases ⟨x,if row.getD 0 []=dB then 2 else 1,decide (row.getD 2 []= [89]),f.rules.length,n⟩) eof n rows with
       | .error e=> .error e
       | .ok r=> .ok ({f with bE:=f.bE++ [⟨x,if row.getD 0 []=dB then 2 else 1,decide (row.getD 2 []= [89]),f.rules.length,n⟩],rules:=f.rules++r.1},r.2)
noncomputable def kr (f:aU) (rows:List Rw) (ln:Nat) (row:List Tx):Except (Nat×Nat) (aU×List Rw):=
 match im f (row.getD 1 []) with
 | .error e=> .error (ln,e)
 | .ok x=> .ok ({f with sp:=f.sp.set (ez.idxOf<|row.getD 0 []) x},rows)
def kM (f:aU) (hs:List Tx) (rows:List Rw) (ln:Nat) (row:List Tx):Except (Nat×Nat) (aU×List Rw):=
 if ordered hs=false then .error (ln,113) else if j5 (row.getD 1 [])=0 then .error (ln,114) else .ok ({f with kind:=j5<|row.getD 1 []},rows)
def mU (f:aU) (rows:List Rw) (ln:Nat) (row:List Tx):Except (Nat×Nat) (aU×List Rw):=
 if gQ (row.getD 1 [])=false then .error (ln,21) else .ok ({f with tg:=row.getD 1 []},rows)
def mZ (f:aU) (rows:List Rw) (ln:Nat) (row:List Tx):Except (Nat×Nat) (aU×List Rw):=
 if (letE<|row.getD 1 []).2≠0 then .error (ln,(letE<|row.getD 1 []).2) else .ok ({f with tr:=(letE<|row.getD 1 []).1},rows)
noncomputable def k9 (f:aU) (rows:List Rw) (ln:Nat) (row:List Tx):Except (Nat×Nat) (aU×List Rw):=
 match fw (row.getD 1 []) 64 with
 | .error e=> .error (ln,e)
 | .ok n=>if n=0 then .error (ln,13) else .ok ({f with least:=n},rows)
noncomputable def kq (eof:Nat) (f:aU) (rows:List Rw) (ln:Nat) (row:List Tx):Except (Nat×Nat) (aU×List Rw):=
 match fw (row.getD 1 []) 256 with
 | .error e=> .error (ln,e)
 | .ok n=>match group [fK] lf eof n rows with
   | .error e=> .error e
   | .ok r=> .ok ({f with dA:=f.dA++r.1},r.2)
noncomputable def j9 (eof:Nat) (f:aU) (hs:List Tx) (rows:List Rw) (ln:Nat) (row:List Tx):Except (Nat×Nat) (aU×List Rw):=
 if ga∈hs∨dB∈hs then .error (ln,113)
 else match fw (row.getD 1 []) 1024 with
  | .error e=> .error (ln,e)
  | .ok n=>match group [eX] (kX f.kind) eof n rows with
    | .error e=> .error e
    | .ok r=> .ok ({f with aliases:=f.aliases++r.1},r.2)
noncomputable def cH (eof:Nat) (f:aU) (hs:List Tx) (rows:List Rw) (ln:Nat) (row:List Tx):Except (Nat×Nat) (aU×List Rw):=
 if row.getD 0 []∈ez then kr f rows ln row
 else if row.getD 0 []=iV then kM f hs rows ln row
 else if row.getD 0 []=jh then mU f rows ln row
 else if row.getD 0 []=jt then mZ f rows ln row
 else if row.getD 0 []=kK then k9 f rows ln row
 else if row.getD 0 []=fK then kq eof f rows ln row
 else if row.getD 0 []=eX then j9 eof f hs rows ln row
 else ic eof f rows ln row
noncomputable def ir (eof:Nat):Nat→aU→List Tx→List Rw→Except (Nat×Nat) aU
 | 0,f,_,rows=>if rows= [] then .ok f else .error (0,0)
 | _+1,f,_,[]=> .ok f
 | k+1,f,hs,(ln,row)::rows=>
   if width (row.getD 0 [])=0 then .error (ln,110)
   else if row.length≠width (row.getD 0 []) then .error (ln,111)
   else if width (row.getD 0 [])=2∧row.getD 0 []∈hs then .error (ln,112)
   else match cH eof f hs rows ln row with
    | .error e=> .error e
    | .ok r=>ir eof k r.1 (hs++ [row.getD 0 []]) r.2
def nH (f:aU) (x:Nat):Bool:=decide (x=f.sp.getD 0 0) || (match ej f.bE x with | some c=>decide (c.kind=2) | none=>false)
def o5 (f:aU) (r:c7):Bool:=r.next.any fun x=> !nH f x
def iR:aU:=⟨1,[],[],[0,0,0,0,0],3,[],[],[],[]⟩
noncomputable def fQ (t:Tx):Except (Nat×Nat) aU:=
 if 65536 < t.length then .error (0,10)
 else match ir ((bP t).length+1) (bZ t).length iR [] (bZ t) with
  | .error e=> .error e
  | .ok f=>match f.rules.find? (o5 f) with
    | some r=> .error (r.line,118)
    | none=> .ok f
theorem xu {α:Type} {hd:List Tx} {rd:Nat→List Tx→Except Nat α} {eof:Nat} :∀ (n:Nat) (rows:List Rw) (r:List α×List Rw),group hd rd eof n rows= .ok r→r.2.length≤rows.length∧r.1.length=n∧∀ q∈r.2,q∈rows:=by
 intro n
 induction n with
 | zero=>intro rows r h; simp only [group,tO] at h; subst h; exact ⟨cU _,rfl,fun q A=>A⟩
 | succ n C=>
   intro rows r h;cases rows with
   | nil=>simp [group] at h
   | cons q rows=>
     obtain ⟨ln,row⟩:=q;simp only [group] at h;split at h
     · cases h
     · cases hr:rd ln row with
       | error e=>rw [hr] at h; cases h
       | ok x=>
         rw [hr] at h;simp only at h;cases hg:group hd rd eof n rows with
         | error e=>rw [hg] at h; cases h
         | ok E=>
           rw [hg] at h;simp only [tO] at h;subst h;have :=C rows E hg;refine ⟨by simp only [cV]; omega,by simp only [cV]; omega,fun q A=>nW _<|this.2.2 q A⟩
def jz {α:Type} (hd:List Tx) (rd:Nat→List Tx→Except Nat α) (eof:Nat) (T:Except (Nat×Nat) (List α×List Rw)) (xs:List α) (n:Nat) (rows:List Rw):Prop :=
 T=match group hd rd eof n rows with
  | .error e=> .error e
  | .ok r=> .ok (xs++r.1,r.2)
theorem jz.start {α:Type} {hd:List Tx} {rd:Nat→List Tx→Except Nat α} {eof n:Nat} {rows:List Rw} :jz hd rd eof (group hd rd eof n rows) [] n rows:=by
 unfold jz; cases group hd rd eof n rows <;> rfl
section
variable {α:Type} {hd:List Tx} {rd:Nat→List Tx→Except Nat α} {eof n:Nat} {T:Except (Nat×Nat) (List α×List Rw)} {xs:List α} {rows:List Rw} {ln:Nat} {row:List Tx}
theorem jz.ends (h:jz hd rd eof T xs n []) (hn:0 < n):T= .error (eof,116):=by
 obtain ⟨m,rfl⟩:∃ m,n=m+1:=⟨n - 1,ab⟩
 exact h
theorem jz.other (h:jz hd rd eof T xs n ((ln,row)::rows)) (hn:0 < n) (A:row.take hd.length≠hd):T= .error (ln,116):=by
 obtain ⟨m,rfl⟩:∃ m,n=m+1:=⟨n - 1,ab⟩
 unfold jz at h; simp only [group] at h; rw [if_pos A] at h; exact h
theorem jz.bad {e:Nat} (h:jz hd rd eof T xs n ((ln,row)::rows)) (hn:0 < n) (A:row.take hd.length=hd) (he:rd ln row= .error e):T= .error (ln,e):=by
 obtain ⟨m,rfl⟩:∃ m,n=m+1:=⟨n - 1,ab⟩
 unfold jz at h; simp only [group] at h; rw [if_neg (fun h2=>h2 A),he] at h; exact h
theorem jz.step {x:α} (h:jz hd rd eof T xs n ((ln,row)::rows)) (hn:0 < n) (A:row.take hd.length=hd) (he:rd ln row= .ok x):jz hd rd eof T (xs++ [x]) (n - 1) rows:=by
 obtain ⟨m,rfl⟩:∃ m,n=m+1:=⟨n - 1,ab⟩
 unfold jz at h ⊢; simp only [group] at h; rw [if_neg (fun h2=>h2 A),he] at h;simp only [ud] at h ⊢;rw [h];cases group hd rd eof m rows with
 | error e=>rfl
 | ok r=>simp only [eS]; rfl
theorem jz.done (h:jz hd rd eof T xs 0 rows):T= .ok (xs,rows):=by
 unfold jz at h; simpa [group] using h
end
end Go.Hb
end
section
set_option linter.unusedSimpArgs false
namespace Go.Hb
open Classical
structure mF (P:Program) (k:TypeId) (isK:Value→Prop):Prop where
 key:vY P k isK
 stays:∀ w v,isK v→(Gk v v).run P w= .ok v w
def jT (v:Value):Prop := ∃ s:List UInt8,v=str s
def k5 (q:IntKind) (v:Value):Prop := ∃ a:Int,v= .int q a
theorem Ke {d:TypeDesc} {isK:Value→Prop} (hs:∀ x y,isK x→isK y→∃ A,Gn d x y=some A∧(A=true↔x=y)) {x:Value} (G:isK x):∀ (es:List MapEntry) (i:Nat),(∀ e∈es,isK e.key)→
 (tR d x es i=some none∧∀ e∈es,e.key≠x)∨∃ j e,tR d x es i=some (some (i+j,e.val))∧es[j]? =some e∧e.key=x
 | [],i,_=> .inl ⟨rfl,fun _ h=>by simp at h⟩
 | e::es,i,h=>by
   obtain ⟨A,h1,h2⟩:=hs x e.key G<|h e<|by simp
   cases A with
   | true =>exact .inr ⟨0,e,by simp [tR,h1],rfl,(h2.1 rfl).symm⟩
   | false =>
     have J:e.key≠x:=fun I=>by cases h2.2 I.symm
     rcases Ke hs G es (i+1) (fun e he=>h e<|by simp [he]) with ⟨h3,h4⟩ | ⟨j,C,h3,h4,h5⟩
     · refine .inl ⟨by simp [tR,h1,h3],fun C E=> ?_⟩;rcases fG.1 E with rfl | E
       · exact J
       · exact h4 C E
     · refine .inr ⟨j+1,C,?_,h4,h5⟩;simp only [tR,h1,h3]; rw [show i+1 +j=i+(j+1) from by omega]
theorem L0 {P:Program} {k:TypeId} {d:TypeDesc} {isK:Value→Prop} (hk:P.underlying k=some d) (hs:∀ x y,isK x→isK y→∃ A,Gn d x y=some A∧(A=true↔x=y)) (C:∀ em w v,isK v→(pQ em 10000 k v).run P w= .ok () w):vY P k isK where
 check:=C
 find w x es hx hes:=by
  rcases Ke hs hx es 0 hes with ⟨h1,h2⟩ | ⟨j,e,h1,h2,h3⟩
  · exact .inl ⟨by simp [tQ,ee hk,h1],h2⟩
  · exact .inr ⟨j,e,by simp [tQ,ee hk,h1],h2,h3⟩
theorem Cf (a b:ByteArray):(a==b)=decide (a=b):=by
 rw [sI,decide_eq_true_iff];show ((a.data==b.data)=true)↔_;rw [beq_iff_eq];exact ⟨fun h=>by cases a; cases b; cases h; rfl,fun h=>by rw [h]⟩
theorem Y6 {P:Program} {k:TypeId} (hk:P.underlying k=some .string):mF P k jT where
 key:=L0 hk (by
  rintro _ _ ⟨a,rfl⟩ ⟨b,rfl⟩;refine ⟨_,aa,?_⟩;rw [Cf,decide_eq_true_iff];constructor
  · intro h; unfold str; rw [h]
  · intro h; unfold str at h; cases h; rfl) (by rintro em w _ ⟨a,rfl⟩; exact IH (n:=9999) hk w)
 stays w v hv:=by obtain ⟨a,rfl⟩:=hv; simp [Gk,PA,str,Cf]
theorem TX {P:Program} {k:TypeId} {q r:IntKind} {em:Bool} {n:Nat} {a:Int} (hk:P.underlying k=some (.int q)) (w:World):(pQ em (n+1) k<|.int r a).run P w= .ok () w:=by
 simp only [pQ,oR,ee hk,oQ,rC]
theorem LZ {P:Program} {k:TypeId} {q r:IntKind} (hk:P.underlying k=some (.int q)):mF P k (k5 r) where
 key:=L0 hk (by
  rintro _ _ ⟨a,rfl⟩ ⟨b,rfl⟩;refine ⟨decide (a=b),by simp [Gn]; rfl,?_⟩;rw [decide_eq_true_iff];exact ⟨fun h=>by rw [h],fun h=>by cases h; rfl⟩) (by rintro em w _ ⟨a,rfl⟩; exact TX (n:=9999) hk w)
 stays w v hv:=by obtain ⟨a,rfl⟩:=hv; simp [Gk,PA]
def di (h:Array Obj) (b:Nat) (isK:Value→Prop) (f:Value→Option Value):Prop :=
 ∃ kvs,sY h b kvs∧(∀ p∈kvs,isK p.1)∧(kvs.map iN).Nodup∧∀ k v,f k=some v↔(k,v)∈kvs
theorem di.md {F:Nat→Prop} {w w':World} {b:Nat} {isK:Value→Prop} {f:Value→Option Value} (h:di w.heap b isK f) (hm:Md F w w') (A:¬F b):di w'.heap b isK f:=
 let ⟨kvs,h1,h2⟩:=h; ⟨kvs,h1.md hm A,h2⟩
theorem di.wk {w w':World} {b:Nat} {isK:Value→Prop} {f:Value→Option Value} (h:di w.heap b isK f) (hm:Wk w w'):di w'.heap b isK f:=h.md hm id
theorem di.nil {h:Array Obj} {b:Nat} {isK:Value→Prop} {c:Nat} (hm:h[b]? =some (.map #[] c)):di h b isK fun _=>none:=
 ⟨[],⟨_,_,hm,rfl⟩,fun p hp=>(by simp at hp),(by simp),fun k v=>by simp⟩
theorem di.isMap {h:Array Obj} {b:Nat} {isK:Value→Prop} {f:Value→Option Value} (hm:di h b isK f):∃ es c,h[b]? =some (.map es c):=let ⟨_,⟨es,c,h1,_⟩,_⟩:=hm; ⟨es,c,h1⟩
theorem di.pI {h:Array Obj} {b:Nat} {isK:Value→Prop} {f:Value→Option Value} (hm:di h b isK f) {cur:Array Value} {e:TypeId} {z:Nat×Nat} :h[b]?≠some (.cells cur e z):=by
 obtain ⟨es,c,h1⟩:=hm.isMap; rw [h1]; intro h; cases h
noncomputable def bU (f:Value→Option Value) (k v:Value):Value→Option Value:=fun q=>if q=k then some v else f q
theorem oI (f:Value→Option Value) (k v:Value):bU f k v k=some v:=if_pos rfl
theorem mm {f:Value→Option Value} {k v q:Value} (h:q≠k):bU f k v q=f q:=if_neg h
section
variable {P:Program} {N:Fm} {σ:Nat→Value} {w:World} {dst:Option Nat} {ty:TypeId} {pos :String} {af:Array Edge} {g:Option (Nat×Bool)} {x y z:Operand} {K:(Nat→Value)→World→Prop}
variable {t k e:TypeId} {isK:Value→Prop} {b:Nat} {f:Value→Option Value} {kx v zv:Value}
theorem Mh {ok:Bool} (E:P.underlying t=some (.map k e)) (J:zeroV P e=some zv) (C:mF P k isK) (hm:di w.heap b isK f) (G:ev N σ x= .map (some b)) (I:ev N σ y=kx) (hi:isK kx):
 (execOp (ev N σ) ⟨dst,.lookup t x y ok,ty,pos,af,g⟩).run P w= .ok (.value (if ok then .tuple #[(f kx).getD zv,.bool (f kx).isSome] else (f kx).getD zv)) w:=by
 obtain ⟨kvs,h1,h2,h3,h4⟩:=hm;cases hf:f kx with
 | none=>exact Zs E J C.key h1 h2 G I hi fun v A=>by rw [← h4] at A; rw [hf] at A; cases A
 | some v=>exact Zr E C.key h1 h2 G I hi h3<|(h4 kx v).1 hf
theorem mQ (C:P.underlying t=some (.map k e)) (J:zeroV P e=some zv) (A:mF P k isK) (hm:di w.heap b isK f) (G:ev N σ x= .map (some b)) (I:ev N σ y=kx) (hi:isK kx) (E:(f kx).getD zv=v):
 (execOp (ev N σ) ⟨dst,.lookup t x y false,ty,pos,af,g⟩).run P w= .ok (.value v) w:=by
 rw [Mh C J A hm G I hi,E]; rfl
theorem Mi {ob:Bool} (E:P.underlying t=some (.map k e)) (O:zeroV P e=some zv) (A:mF P k isK) (hm:di w.heap b isK f) (I:ev N σ x= .map (some b)) (J:ev N σ y=kx) (hi:isK kx) (G:(f kx).getD zv=v) (C:(f kx).isSome=ob):
 (execOp (ev N σ) ⟨dst,.lookup t x y true,ty,pos,af,g⟩).run P w= .ok (.value<|.tuple #[v,.bool ob]) w:=by
 rw [Mh E O A hm I J hi,G,C]; rfl
theorem OM (ah:P.underlying t=some (.map k e)) (O:mF P k isK) (hm:di w.heap b isK f) (hi:isK kx):
 ∃ w',(Gm t (.map<|some b) kx v).run P w= .ok () w'∧Md (fun j=>j=b) w w'∧di w'.heap b isK (bU f kx v):=by
 obtain ⟨kvs,⟨es,c,J,he⟩,h2,h3,h4⟩:=hm;have Z:=(dO.1 J).1;rcases O.key.find w kx es.toList hi (Dh he h2) with ⟨h1,ap⟩ | ⟨j,Y,h1,E,h5⟩
 · have ag:∀ u,(kx,u)∉kvs:=fun u hu=>by
    rw [← he] at hu;obtain ⟨ai,am,aj⟩:=jn.1 hu;cases aj;exact ap ai am aa
   refine ⟨{w with heap:=w.heap.setIfInBounds b<|.map (es.push {key:=kx,val:=v,born:=c})<|c+1},by simp [Gm,ee ah,run_getObj_map J,O.key.check _ w kx hi,h1,setObj,tV,J],⟨aa,aa,by simp,fun i _ G=>by simp only; rw [vF (fun e=>G e.symm)]⟩,kvs++ [(kx,v)],⟨_,_,by simp only; rw [vG Z],by simp [he]⟩,?_,?_,?_⟩
   · intro p hp;rcases jm.1 hp with hp | hp
     · exact h2 p hp
     · rw [iK.1 hp]; exact hi
   · rw [gW,yC];refine ⟨h3,by simp,?_⟩;intro a ak au ab al;simp at ab;subst al ab;obtain ⟨p,hp,aq⟩:=jn.1 ak;exact ag p.2<|by rw [← aq]; exact hp
   · intro q u;unfold bU;rw [jm,iK];by_cases C:q=kx
     · subst C;rw [if_pos rfl];constructor
       · intro h; cases h; exact .inr rfl
       · rintro (h | h)
         · exact absurd h<|ag u
         · cases h; rfl
     · rw [if_neg C,h4];constructor
       · exact .inl
       · rintro (h | h)
         · exact h
         · cases h; exact absurd rfl C
 · have av:j < es.size:=by have :=(fL.1 E).1; simpa using this
   have ac:es[j]? =some Y:=by simpa using E
   refine ⟨{w with heap:=w.heap.setIfInBounds b<|.map (es.modify j fun e=> {e with key:=kx,val:=v}) c},?_,⟨aa,aa,by simp,fun i _ G=>by simp only; rw [vF (fun e=>G e.symm)]⟩,kvs.set j (kx,v),⟨_,_,by simp only; rw [vG Z],?_⟩,?_,?_,?_⟩
   · have hs:=O.stays w kx hi;simp [Gm,ee ah,run_getObj_map J,O.key.check _ w kx hi,h1,ac,h5,hs,setObj,tV,J]
   · rw [← he];apply qw;intro i;simp only [Bq,gx,P4,lK,fP];by_cases I:j=i
     · subst I; rw [E]; simp; have :=(fL.1 E).1; simpa using this
     · simp [I]
   · intro p hp;rcases GN hp with hp | hp
     · exact h2 p hp
     · rw [hp]; exact hi
   · have :(kvs.set j (kx,v)).map iN=kvs.map iN:=by
      apply qw;intro i;simp only [gx,lK];by_cases I:j=i
      · subst I;rw [← he]; simp only [gx,E,fP];have :=(fL.1 E).1;simp [this,h5];simpa using this
      · simp [I]
     rw [this]; exact h3
   · intro q u;have V:kvs[j]? =some (kx,Y.val):=by rw [← he]; simp [E,h5,ac]
     have ae:=(fL.1 V).1;have ao:(kx,v)∈kvs.set j (kx,v):=gC (i:=j)<|by rw [lK,if_pos rfl,if_pos ae]
     unfold bU;by_cases C:q=kx
     · subst C;rw [if_pos rfl];constructor
       · intro h; cases h; exact ao
       · intro h;obtain ⟨i,A⟩:=tZ h;rw [lK] at A;split at A
         · rename_i an;subst an;cases A; rfl
         · rename_i G;exfalso;exact G<|(GL (i:=j) (j:=i) (by simpa using ae) h3).1<|by simp [V,A]
     · rw [if_neg C,h4];constructor
       · intro h;obtain ⟨i,A⟩:=tZ h;have G:j≠i:=by rintro rfl; rw [V] at A; cases A; exact C rfl
         exact gC (i:=i)<|by rw [lK,if_neg G]; exact A
       · intro h;rcases GN h with h | h
         · exact h
         · cases h; exact absurd rfl C
theorem tK (E:P.underlying t=some (.map k e)) (A:mF P k isK) (hm:di w.heap b isK f) (G:ev N σ x= .map (some b)) (I:ev N σ y=kx) (J:ev N σ z=v) (hi:isK kx)
 (O:∀ w',Md (fun j=>j=b) w w'→di w'.heap b isK (bU f kx v)→K σ w'):dS P N ⟨none,.mapUpdate t x y z,ty,pos,af,g⟩ σ w K:=by
 obtain ⟨w',h1,h2,h3⟩:=OM (v:=v) E A hm hi;have C:(execOp (ev N σ) ⟨none,.mapUpdate t x y z,ty,pos,af,g⟩).run P w= .ok .skip w':=by
  simp [execOp,G,I,J,h1]
 unfold dS kt;rw [jD,C];exact ⟨σ,aa,O w' h2 h3⟩
theorem nD (E:P.underlying t=some (.map k e)) (A:mF P k isK) (hm:di w.heap b isK f) (G:ev N σ x= .map (some b)) (I:ev N σ y=kx) (J:ev N σ z=v) (hi:isK kx)
 (O:∀ w',Md (fun j=>j=b) w w'→di w'.heap b isK (bU f kx v)→K σ w'):dS P N ⟨none,.insert t x y z,ty,pos,af,g⟩ σ w K:=by
 obtain ⟨w',h1,h2,h3⟩:=OM (v:=v) E A hm hi;have C:(execOp (ev N σ) ⟨none,.insert t x y z,ty,pos,af,g⟩).run P w= .ok .skip w':=by
  simp [execOp,G,I,J,h1]
 unfold dS kt;rw [jD,C];exact ⟨σ,aa,O w' h2 h3⟩
end
end Go.Hb
end
section
namespace Go.Hb
section
variable {P:Program} {N:Fm} {σ:Nat→Value} {w:World} {fn:Func} {R:Value→World→Prop}
theorem Zz {t b off :Nat} {v:Value} (hu:dG P t=some none) (A:Hb.aW w.heap b off =some v):(loadVar t ⟨b,off,none⟩).run P w= .ok v w:=by
 have C:w.cell? ⟨b,off,none⟩=some v:=by rw [o7]; exact A
 unfold dG at hu;cases hd:P.underlying t with
 | none=>rw [hd] at hu; cases hu
 | some d=>
   rw [hd] at hu;cases d <;> first
    | (simp only [nY] at hu; obtain ⟨_,_,h⟩:=hu; cases h; done)
    | simp [loadVar,isAgg,ee hd,run_load,C]
theorem ZA {t n b off :Nat} {cs:List Value} (hu:dG P t=some (some n)) (G:cs.length=n) (C:∀ j,j < n→Hb.aW w.heap b (off+j)=cs[j]?):(loadVar t ⟨b,off,none⟩).run P w= .ok (.agg cs.toArray) w:=by
 have E:(loadCells ⟨b,off,none⟩ n).run P w= .ok cs.toArray w:=by
  subst G;refine run_loadCells_list (P:=P) w ⟨b,off,none⟩ cs fun j v A=> ?_;rw [nm,o7];exact (C j (fL.1 A).1).trans A
 unfold dG at hu;cases hd:P.underlying t with
 | none=>rw [hd] at hu; cases hu
 | some d=>
   rw [hd] at hu;cases hi:P.info? t with
   | none=>simp [PF,hi] at hd
   | some i=>
     rw [hi] at hu;cases d <;> first
      | (cases hu; done)
      | (simp only [lL,gD] at hu; subst hu
         simp [loadVar,isAgg,ee hd,sizeOf,jx hi,E])
def oZ (P:Program) (N:Fm) (σ:Nat→Value) (w:World):ResultVar→Value→Prop
 | .tmp t,v=>ev N σ (.tmp t)=v
 | .cell a t,v=> ∃ ad,ev N σ (.tmp a)= .pointer (some ad)∧(loadVar t ad).run P w= .ok v w
theorem eD {t:Tmp} :oZ P N σ w (.tmp t) (ev N σ<|.tmp t):=rfl
theorem Fh {a t b off :Nat} {v:Value} (C:ev N σ (.tmp a)= .pointer (some ⟨b,off,none⟩)) (hu:dG P t=some none) (A:Hb.aW w.heap b off =some v):oZ P N σ w (.cell a t) v:=⟨_,C,Zz hu A⟩
theorem ed {a t n b off :Nat} {cs:List Value} (E:ev N σ (.tmp a)= .pointer (some ⟨b,off,none⟩)) (hu:dG P t=some (some n)) (C:cs.length=n) (A:∀ j,j < n→Hb.aW w.heap b (off+j)=cs[j]?):oZ P N σ w (.cell a t) (.agg cs.toArray):=⟨_,E,ZA hu C A⟩
def ql (tmps:Array Value):ResultVar→Sem Value
 | .tmp t=>pure<|tmps.getD t undef
 | .cell a t=>do loadVar t (← asAddr (tmps.getD a undef))
theorem oL {r:ResultVar} {v:Value} (h:oZ P N σ w r v):(ql (act N σ).tmps r).run P w= .ok v w:=by
 cases r with
 | tmp t=>
   show tV P (pure<|(act N σ).tmps.getD t undef) w=_;rw [pP]; simp only [oZ] at h; rw [h]; rfl
 | cell a t=>
   obtain ⟨ad,h1,h2⟩:=h;show tV P (do loadVar t (← asAddr ((act N σ).tmps.getD a undef))) w=_;rw [pP,h1];simp [asAddr,h2]
theorem abz {tmps:Array Value} {r:ResultVar} {v:Value} (h:fn.results= #[r]) (h1:(ql tmps r).run P w= .ok v w):(results fn tmps).run P w= .ok v w:=by
 have A:(results fn tmps)=(do let vs ← #[r].mapM (ql tmps); pure (if h:vs.size=1 then vs[0] else .tuple vs)):=by
  unfold results; rw [h]; rfl
 rw [A]; simp [yA,h1]
theorem AD {tmps:Array Value} {r s:ResultVar} {v u:Value} (h:fn.results= #[r,s]) (h1:(ql tmps r).run P w= .ok v w) (h2:(ql tmps s).run P w= .ok u w):(results fn tmps).run P w= .ok (.tuple #[v,u]) w:=by
 have A:(results fn tmps)=(do let vs ← #[r,s].mapM (ql tmps); pure (if h:vs.size=1 then vs[0] else .tuple vs)):=by
  unfold results; rw [h]; rfl
 rw [A]; simp [yA,h1,h2]
theorem abA {tmps:Array Value} {r s q:ResultVar} {v u z:Value} (h:fn.results= #[r,s,q]) (h1:(ql tmps r).run P w= .ok v w) (h2:(ql tmps s).run P w= .ok u w) (h3:(ql tmps q).run P w= .ok z w):(results fn tmps).run P w= .ok (.tuple #[v,u,z]) w:=by
 have A:(results fn tmps)=(do let vs ← #[r,s,q].mapM (ql tmps); pure (if h:vs.size=1 then vs[0] else .tuple vs)):=by
  unfold results; rw [h]; rfl
 rw [A]; simp [yA,h1,h2,h3]
theorem wV {r:ResultVar} {v:Value} (h:fn.results= #[r]) (h1:oZ P N σ w r v) (A:R v w):fin P fn N R .ret σ w:=⟨v,abz h (oL h1),A⟩
theorem eN {r s:ResultVar} {v u:Value} (h:fn.results= #[r,s]) (h1:oZ P N σ w r v) (h2:oZ P N σ w s u) (A:R (.tuple #[v,u]) w):fin P fn N R .ret σ w:=⟨_,AD h (oL h1) (oL h2),A⟩
theorem JS {r s q:ResultVar} {v u z:Value} (h:fn.results= #[r,s,q]) (h1:oZ P N σ w r v) (h2:oZ P N σ w s u) (h3:oZ P N σ w q z) (A:R (.tuple #[v,u,z]) w):fin P fn N R .ret σ w:=⟨_,abA h (oL h1) (oL h2) (oL h3),A⟩
end
end Go.Hb
end
section
namespace Go.Hb
def qp (P:Program) (N:Fm) (c:Code) (B:Exit→Act→World→Prop) (σ:Nat→Value) (w:World):Prop :=c.wpIn (fe N.r) 0 P B (act N σ) w
def qb (N:Fm) (B:Exit→Act→World→Prop):Exit→(Nat→Value)→World→Prop :=fun e σ w=>B e (act N σ) w
section
variable {P:Program} {N:Fm} {B:Exit→Act→World→Prop} {σ:Nat→Value} {w:World}
theorem jk {x y:Code} (h:qp P N x (Exit.then (y.wpIn (fe N.r) 0 P B) B) σ w):qp P N (.seq x y) B σ w:=wpIn_seq h
theorem jv {y:Code} (h:qp P N y B σ w):qb N (Exit.then (y.wpIn (fe N.r) 0 P B) B) .normal σ w:=h
theorem prt {y:Act→World→Prop} (h:qb N B .ret σ w):qb N (Exit.then y B) .ret σ w:=h
theorem Fj (h:qb N B .ret σ w):qp P N .ret B σ w:=wpIn_ret h
theorem jU {c:Code} (h:eA P N c (qb N B) σ w):qp P N c B σ w:=by
 unfold eA at h;refine wpIn_mono h ?_;intro e a w A;cases e with
 | panic c=>obtain ⟨σ,rfl,C⟩:=A; exact C σ fun _ _=>rfl
 | outgrown=>exact A.elim
 | _=>obtain ⟨σ,rfl,C⟩:=A; exact C
end
theorem AH (fn:Func) (args:List Value) (F:List Nat) (hn:oT args.length fn.ntmps=true):({tmps:=args.toArray++Array.replicate (fn.ntmps - args.toArray.size) undef,defers:= []} :Act)=act ⟨fn.ntmps,[],F,none⟩ (nN args):=by
 have A:args.length≤fn.ntmps:=by simpa using hn
 refine yM aa fun i=> ?_;rw [qM];simp only [nN,cX,qB];by_cases h1:i < args.length
 · rw [Array.getElem?_append_left (by simpa using h1),if_pos ab];simp [h1]
 · rw [Array.getElem?_append_right (by simpa using h1)];simp only [qB,Array.getElem?_replicate];by_cases h2:i < fn.ntmps
   · rw [if_pos ab,if_pos h2,List.getElem?_eq_none ab]; rfl
   · rw [if_neg ab,if_neg h2]
abbrev Bm (P:Program) (fn:Func) (R:Value→World→Prop):Exit→Act→World→Prop :=bodyPostM ry 0 P fn (fun e w'=> ∃ v,e= .returned v∧R v w')
theorem JJ {P:Program} {f:FuncId} {N:Nat} {fn:Func} {c:Code} {args:List Value} {w:World} {R:Value→World→Prop} (F:List Nat) (E:P.funcs[f]? =some fn) (C:fn.body=some c)
 (A:fn.ntmps=N) (hn:oT args.length N=true) (h:qp P ⟨N,[],F,none⟩ c (Bm P fn R) (nN args) w):bm P f args.toArray w R:=by
 subst A;refine callsIn_wide.1<|callsIn_of_wp_marks (F:=ry) (n:=0) E C trivial ?_;rw [AH fn args F hn];exact h
section
variable {P:Program} {n:Nat} {F:List Nat} {σ:Nat→Value} {w:World} {fn:Func} {R:Value→World→Prop}
theorem Zf {e:Exit} (he:e= .ret∨e= .normal) {v:Value} (C:(results fn (act ⟨n,[],F,none⟩ σ).tmps).run P w= .ok v w) (A:R v w):qb ⟨n,[],F,none⟩ (Bm P fn R) e σ w:=by
 rcases he with rfl | rfl <;> exact ⟨v,C,v,rfl,A⟩
theorem JQ {t u:Nat} {v A:Value} (h:fn.results= #[.tmp t,.tmp u]) (E:ev ⟨n,[],F,none⟩ σ (.tmp t)=v) (hu:ev ⟨n,[],F,none⟩ σ (.tmp u)=A) (C:R (.tuple #[v,A]) w):qb ⟨n,[],F,none⟩ (Bm P fn R) .ret σ w:=
 Zf (.inl rfl) (by rw [results_tmp2 h,pP,pP,E,hu]) C
theorem Zg {D:Nat} {v:Value} (A:w.heap[D]? =some (.deferred<|some [])) (E:∀ w',(results fn (act ⟨n,[{target:= .collected D,args:= #[]}],F,none⟩ σ).tmps).run P w'= .ok v w') (C:R v (w.putObj D<|.deferred none)):
 qb ⟨n,[{target:= .collected D,args:= #[]}],F,none⟩ (Bm P fn R) .ret σ w:=
 ⟨FrameMode.noConfusion,.inl ⟨_,_,rfl,run_takeDeferred A,⟨v,E _,v,rfl,C⟩⟩⟩
theorem JR {D t u:Nat} {v A:Value} (h:fn.results= #[.tmp t,.tmp u]) (G:ev ⟨n,[{target:= .collected D,args:= #[]}],F,none⟩ σ (.tmp t)=v) (hu:ev ⟨n,[{target:= .collected D,args:= #[]}],F,none⟩ σ (.tmp u)=A)
 (C:w.heap[D]? =some (.deferred<|some [])) (E:R (.tuple #[v,A]) (w.putObj D<|.deferred none)):qb ⟨n,[{target:= .collected D,args:= #[]}],F,none⟩ (Bm P fn R) .ret σ w:=
 Zg C (fun w'=>by rw [results_tmp2 h,pP,pP,G,hu]) E
end
theorem dX {w:World} {B t size n pp A:Nat} {v:Value} {xs:List Value} {cs:Array Value} {z:Nat×Nat} (h:w.ownsRow B t size v n xs) (hp:w.heap[pp]? =some (.cells cs A z)) (E:t≠A):v.ownBlock≠some pp:=by
 intro hk;rcases h.2 with ⟨h1,_⟩ | ⟨g,cap,cur,h1,_,C,_⟩
 · rw [h1] at hk; simp [jN] at hk
 · rw [h1] at hk;simp only [jN,gD] at hk;subst hk;rw [C] at hp;simp only [gD,yl] at hp;exact E hp.2.1
section
variable {P:Program} {N:Fm} {σ:Nat→Value} {w:World} {dst:Option Nat} {ty:TypeId} {pos :String} {af:Array Edge} {g:Option (Nat×Bool)} {x:Operand} {K:(Nat→Value)→World→Prop}
theorem Cg {e:TypeId} {v:Value} (A:ev N σ x=v) (h1:v.oneCell'=true) (k:∀ b w',b=w.heap.size→Nw w w'→w'.heap[b]? =some (.cells [v].toArray e (0,0))→K (gH σ dst<|.pointer<|some ⟨b,0,none⟩) w'):
 dS P N ⟨dst,.box e x,ty,pos,af,g⟩ σ w K:=by
 refine oN (v:=fun b=> .pointer<|some ⟨b,0,none⟩) (ob:= .cells [v].toArray e (0,0)) ?_ k;have :=sn h1;simp [execOp,Instr.box,A,this,newVar,newRow]
end
theorem vb (w:World) (k:Nat) (o:Obj):Md (fun j=>j=k) w (w.putObj k o):=
 ⟨rfl,rfl,by simp [World.putObj],fun j _ A=>Bz A⟩
def kU (w w':World):Prop := ∀ (k:Nat) (o:Obj),w.heap[k]? =some o→((∀ cur e z,o≠.cells cur e z)∧∀ es c,o≠.map es c)→w'.heap[k]? =some o
theorem kU.trans {a b c:World} (h:kU a b) (A:kU b c):kU a c:=fun k o C hn=>A k o (h k o C hn) hn
theorem kU.md {F:Nat→Prop} {w w':World} (hm:Md F w w') (C:∀ k,F k→∃ cur e z,w.heap[k]? =some (.cells cur e z)):kU w w':=fun k o A hn=>by
 rw [hm.dE k (dO.1 A).1 (fun hk=>by obtain ⟨c,e,z,h⟩:=C k hk; rw [A] at h; exact hn.1 _ _ _<|vW h)]; exact A
theorem kU.wk {w w':World} (hm:Wk w w'):kU w w':=kU.md hm fun _ h=>h.elim
theorem xM {w:World} {B e size n:Nat} {v:Value} {xs:List Value} (h:w.ownsRow B e size v n xs):∀ k,v.ownBlock=some k→∃ cur e z,w.heap[k]? =some (.cells cur e z):=by
 intro k hk;rcases h.2 with ⟨rfl,_⟩ | ⟨g,cap,C,rfl,_,A,_⟩
 · simp [jN] at hk
 · simp only [jN,gD] at hk; subst hk; exact ⟨_,_,_,A⟩
def QK {α:Type} (B:Nat) (A:List α→World→Prop):Prop := ∀ pre W W' (F:Nat→Prop),A pre W→Md F W W'→(∀ k,F k→B≤k∧∀ cur e z,W.heap[k]?≠some (.cells cur e z))→A pre W'
section
variable {F:Nat→Prop} {W W':World} {B:Nat}
theorem AU {b e:Nat} {cs:Array Value} {z:Nat×Nat} (h:W.heap[b]? =some (.cells cs e z)) (hm:Md F W W') (A:∀ k,F k→B≤k∧∀ cur e z,W.heap[k]?≠some (.cells cur e z)):W'.heap[b]? =some (.cells cs e z):=by
 rw [hm.dE b (dO.1 h).1 (fun hk=>(A b hk).2 _ _ _ h)]; exact h
theorem Od {B' e size n:Nat} {v:Value} {xs:List Value} (h:W.ownsRow B' e size v n xs) (hm:Md F W W') (A:∀ k,F k→B≤k∧∀ cur e z,W.heap[k]?≠some (.cells cur e z)):W'.ownsRow B' e size v n xs:=
 dw h hm fun k hk C=>by obtain ⟨c,e,z,h1⟩:=xM h k hk; exact (A k C).2 _ _ _ h1
theorem Oe {w:World} (h:Wk w W) (hm:Md F W W') (E:w.heap.size≤B) (A:∀ k,F k→B≤k∧∀ cur e z,W.heap[k]?≠some (.cells cur e z)):Wk w W':=Md.trans' h hm fun k hk C=>by have :=(A k C).1; omega
end
def GX {α:Type} (P:Program) (J:Nat) (O:Array Value) (I:α→Array Value) (xs:List α) (G:World→Prop):Prop :=
 ∀ (l:Nat) (A:List α→World→Prop) (W:World),A [] W→(∀ pre W,A pre W→G W)→(∀ pre C E,A pre C→Wk C E→A pre E)→
   (∀ pre x rest C,xs=pre++x::rest→A pre C→YieldAt ry 0 P l (I x) C fun e W'=>e= .returned (.bool true)∧A (pre++ [x]) W')→
   Calls P J (#[.func (.yield l) #[] #[]]++O) W fun e W'=>(∃ v,e= .returned v)∧A xs W'
def abt (R:World→Prop):Exit→(Nat→Value)→World→Prop
 | .normal,_,w=>R w
 | _,_,_=>False
theorem QM (N:Fm):∀ (l:List (Tmp×Value)) (σ:Nat→Value),l.foldl (fun t p=>t.setIfInBounds p.1 p.2) (act N σ).tmps=(act N<|l.foldl (fun s p=>dT s p.1 p.2) σ).tmps:=by
 intro l
 induction l with
 | nil=>intro σ; rfl
 | cons p l A=>
   intro σ;rw [sQ,sQ,← A];congr 1;have :=congrArg Act.tmps<|ll N σ (some p.1) p.2;exact this
theorem Nz {α:Type} {P:Program} {id n:Nat} {g:Operand} {ps:Array Tmp} {ag body:Code} {Fx:List Nat} {σ:Nat→Value} {w:World} {B:Exit→Act→World→Prop} {ac:Nat} {ae:Array Value}
 (V:α→Array Value) (xs:List α) (am:World→Prop) (E:List α→World→Prop) (aH:ev ⟨n,[],Fx,none⟩ σ g= .func (.func ac) #[] ae) (aE:bl P ac) (aO:∀ x,(V x).size=ps.size)
 (aJ:GX P ac ae V xs am) (ay:E [] w) (aF:∀ pre W,E pre W→am W) (ah:QK w.heap.size E) (av:α→Nat→Value)
 (aC:∀ (l:Nat) (x:α) (W:World) (K:(Nat→Value)→World→Prop),K (av x) W→eA P ⟨n,[],[],some l⟩ ag (mY K fun _ _ _=>False) ((ps.toList.zip (V x).toList).foldl (fun s p=>dT s p.1 p.2) σ) W)
 (aD:∀ (l:Nat) (pre:List α) (x:α) (rest:List α) (W:World),xs=pre++x::rest→E pre W→eA P ⟨n,[],[],some l⟩ body (abt fun W'=>kU W W'∧E (pre++ [x]) W') (av x) W)
 (hd:∀ (D:Nat) (W:World),w.heap.size≤D→E xs W→W.heap[D]? =some (.deferred<|some [])→qb ⟨n,[{target:= .collected D,args:= #[]}],Fx,none⟩ B .normal σ W):
 qp P ⟨n,[],Fx,none⟩ (.block id<|.rangeFunc g ps ag body) B σ w:=by
 refine wpIn_block<|wpIn_rangeFunc ?_;intro fn _;obtain ⟨rc,Z⟩:∃ rc:LoopState→Option Code→Loop,rc=fun st aR=> {state:=st,pending:=aR,fn,tmps:=(act ⟨n,[],Fx,none⟩ σ).tmps,params:=ps,assign:=ag,body,defers:=w.heap.size} :=⟨_,rfl⟩
 obtain ⟨G,ai⟩:∃ G,(w.alloc<|.deferred<|some []).alloc (.loop<|rc .ready none)=G:=⟨_,rfl⟩
 have aB:G.heap[w.heap.size+1]? =some (.loop<|rc .ready none):=by
  rw [← ai]; have :=PN (w.alloc<|.deferred<|some []) (.loop<|rc .ready none); rwa [World.size_alloc] at this
 have aA:G.heap[w.heap.size]? =some (.deferred<|some []):=by
  rw [← ai]; exact (Below.heap_alloc _ _ _<|by simp).trans<|PN w _
 have hn:∀ (W:World) (o:Obj),Wk W (W.alloc o):=fun W o=>(MV W o).md;have az:E [] G:=by rw [← ai]; exact ah _ _ _ _ (ah _ _ _ _ ay (hn _ _) fun _ h=>h.elim) (hn _ _) fun _ h=>h.elim
 have aG:(act ⟨n,[],Fx,none⟩ σ).eval g= .func (.func ac) #[] ae:=by rw [jD]; exact aH
 refine ⟨w.heap.size+1,[{target:= .collected w.heap.size,args:= #[]}],G,{target:= .fn (.func ac) ae,args:= #[.func (.yield<|w.heap.size+1) #[] #[]]},G,ac,
  #[.func (.yield<|w.heap.size+1) #[] #[]]++ae,G,?_,?_,fun _ _=>trivial,?_,fun ax=>(by cases ax),?_⟩
 · rw [← ai,Z]; exact run_enterLoop_outer _ _ _ _ _
 · simp only [resolve,aG];simp [go_sem]
 · have :=aE (#[.func (.yield<|w.heap.size+1) #[] #[]]++ae) G;simp [invoke,go_sem,this]
 · have ak:∀ (pre:List α) (W:World) (o al:Obj),E pre W→W.heap[w.heap.size+1]? =some o→(∀ cur e z,o≠.cells cur e z)→E pre (W.putObj (w.heap.size+1) al):=fun pre W o al h1 h2 h3=>
    ah _ _ _ _ h1 (vb W _ al) fun k hk=>⟨ab,fun cur e z h4=>by subst hk; rw [h2] at h4; exact h3 _ _ _<|vW h4⟩
   refine callsIn_wide.2 (mu (aJ (w.heap.size+1)
    (fun pre W=>E pre W∧W.heap[w.heap.size+1]? =some (.loop<|rc .ready none)∧W.heap[w.heap.size]? =some (.deferred<|some []))
    G ⟨az,aB,aA⟩ (fun pre W h=>aF pre W h.1)
    (fun pre A C h hm=>⟨ah _ _ _ _ h.1 hm (fun _ h=>h.elim),(hm.dE _ (dO.1 h.2.1).1 fun h=>h).trans h.2.1,(hm.dE _ (dO.1 h.2.2).1 fun h=>h).trans h.2.2⟩) ?_) ?_)
   · rintro pre x rest W aQ ⟨hi,Y,hk⟩;have aN:w.heap.size+1 < W.heap.size:=(dO.1 Y).1;have aq:=run_yield (P:=P) (args:=V x) Y<|by rw [Z]; exact aO x
     rw [Z] at aq;refine ⟨fn,_,ag,body,aq,roundIn_of_wpIn (F:=ry) trivial ?_⟩;have aP:((ps.zip<|V x).foldl (fun tmps (p:Tmp×Value)=>tmps.setIfInBounds p.1 p.2) (act ⟨n,[],Fx,none⟩ σ).tmps)=(act ⟨n,[],[],some<|w.heap.size+1⟩<|(ps.toList.zip (V x).toList).foldl (fun s p=>dT s p.1 p.2) σ).tmps:=by
      rw [← Pb,Array.toList_zip];exact QM ⟨n,[],[],some<|w.heap.size+1⟩ _ σ
     have h1:=aC (w.heap.size+1) x W (fun O W'=> ∃ au,(Instr.beginRound<|w.heap.size+1).run P W'= .ok () au∧
      body.wpIn (ry.inRound<|w.heap.size+1) 0 P (roundPost P (w.heap.size+1) fun e W'=>e= .returned (.bool true)∧E (pre++ [x]) W'∧W'.heap[w.heap.size+1]? =some (.loop<|rc .ready none)∧W'.heap[w.heap.size]? =some (.deferred<|some [])) (act ⟨n,[],[],some<|w.heap.size+1⟩ O) au) ?_
     · unfold eA at h1;have aw:({tmps:=(ps.zip<|V x).foldl (fun tmps (p:Tmp×Value)=>tmps.setIfInBounds p.1 p.2) (act ⟨n,[],Fx,none⟩ σ).tmps,defers:= []} :Act)=act ⟨n,[],[],some<|w.heap.size+1⟩ ((ps.toList.zip (V x).toList).foldl (fun s p=>dT s p.1 p.2) σ):=by rw [aP]; rfl
       rw [aw];refine wpIn_mono h1 ?_;intro e a w' I;cases e with
       | normal=>obtain ⟨O,rfl,J⟩:=I; exact J
       | panic c=>obtain ⟨O,rfl,J⟩:=I; exact J O fun _ _=>rfl
       | outgrown=>exact I.elim
       | _=>obtain ⟨O,rfl,J⟩:=I; exact J
     refine ⟨_,run_beginRound Y (by rw [Z]),?_⟩;have aM:(W.putObj (w.heap.size+1)<|.loop {rc .ready none with state:= .busy}).heap[w.heap.size+1]? =some (.loop {rc .ready none with state:= .busy}):=PQ aN;have aK:(W.putObj (w.heap.size+1)<|.loop {rc .ready none with state:= .busy}).heap[w.heap.size]? =some (.deferred<|some []):=(Bz ab).trans hk;have h2:=aD (w.heap.size+1) pre x rest _ aQ<|ak _ _ _ (.loop {rc .ready none with state:= .busy}) hi Y fun _ _ _ h=>by cases h
     unfold eA at h2;refine wpIn_mono h2 ?_;intro e a aT I;cases e with
     | normal=>
       obtain ⟨O,rfl,an,aI⟩:=I;have aj:=an _ _ aM ⟨(fun _ _ _ h=>by cases h),fun _ _ h=>by cases h⟩;have aL:=an _ _ aK ⟨(fun _ _ _ h=>by cases h),fun _ _ h=>by cases h⟩;have ao:=run_endRound (P:=P) none aj;rw [Z] at ao aj ⊢;exact ⟨_,_,ao,aa,ak _ _ _ _ aI aj (fun _ _ _ h=>by cases h),PQ (dO.1 aj).1,(Bz ab).trans aL⟩
     | panic c=>obtain ⟨O,rfl,J⟩:=I; exact (J O fun _ _=>rfl).elim
     | outgrown=>exact I.elim
     | _=>obtain ⟨O,rfl,J⟩:=I; exact J.elim
   · rintro e aS ⟨⟨v,rfl⟩,hi,Y,hk⟩;have ap:=run_endLoop (P:=P) Y<|by rw [Z]; simp
     rw [Z] at ap;refine ⟨none,_,ap,?_⟩;rw [Z] at Y;exact hd w.heap.size _ (cU _) (ak _ _ _ _ hi Y fun _ _ _ h=>by cases h)<|(Bz ab).trans hk
section
variable {P:Program} {N:Fm} {ops:Array Oper} {Q:Exit→(Nat→Value)→World→Prop} {rest:List Oper} {σ:Nat→Value} {w:World} {d':Option Nat} {d:Nat} {op:Op} {ty:TypeId} {pos :String} {af:Array Edge} {v:Value}
def qq (P:Program) (N:Fm) (ops:Array Oper) (Q:Exit→(Nat→Value)→World→Prop) (l:List Oper) (σ:Nat→Value) (w:World):Prop :=wpListIn (fe N.r) 0 P ops (lift N Q) l (act N σ) w
theorem rgy {id:Nat} {l:List Oper} (h:qq P N l.toArray Q l σ w):eA P N (.region id l.toArray false) Q σ w:=by
 unfold eA; exact wpIn_region_lit h
theorem nly (h:Q .normal σ w):qq P N ops Q [] σ w:=⟨σ,rfl,h⟩
def EE (o:Op):Bool:=match o with | .defer _=>false | _=>true
theorem aac {o:Op} (h:EE o=true):∀ c,o≠.defer c:=fun c e=>by subst e; cases h
theorem ey (hn:EE op=true) (h:dS P N ⟨d',op,ty,pos,af,none⟩ σ w (fun σ w=>qq P N ops Q rest σ w)):qq P N ops Q (⟨d',op,ty,pos,af,none⟩::rest) σ w:=by
 unfold qq wpListIn;rw [if_pos (kh _ rfl _)];refine ⟨fun f _=>zy _ f,?_⟩;rw [Dk,PE _ _ _ (aac hn)];unfold dS kt at h;generalize (execOp (act N σ).eval ⟨d',op,ty,pos,af,none⟩).run P w=x at h ⊢;cases x with
 | ok n w'=>
   cases n <;> simp only [my,Bw] at h ⊢ <;>
    first
     | (obtain ⟨E,C,hk⟩:=h; rw [C]; exact hk)
     | (refine ⟨fun A=>(by rw [wW] at A; cases A),CallsIn.mono (JX h) fun e w'' he=> ?_⟩
        cases e with
        | returned v=>obtain ⟨E,C,hk⟩:=he; simp only; rw [C]; exact hk
        | panicked c=>exact he.elim
        | outgrown=>obtain ⟨_,_,G⟩:=he; exact G.elim)
     | (refine ⟨fun A=>(by rw [wW] at A; cases A),RowsIn.mono (JY h) fun v w'' he=> ?_⟩
        obtain ⟨E,C,hk⟩:=he; rw [C]; exact hk)
 | halt x w'=>cases x <;> simp only [my] at h
theorem py (hn:EE op=true) (h:(execOp (ev N σ) ⟨some d,op,ty,pos,af,none⟩).run P w= .ok (.value v) w) (k:qq P N ops Q rest (dT σ d v) w):qq P N ops Q (⟨some d,op,ty,pos,af,none⟩::rest) σ w:=
 ey hn (nf h k)
theorem ylr {l:Nat} {fo:Operand} {args:Array Operand} {A:Array TypeId} {L:List Value} {R:World→Prop} (J:ev N σ fo= .func (.yield l) #[] #[]) (G:args.toList.map (ev N σ)=L)
 (V:YieldAt ry 0 P l L.toArray w fun e W'=>e= .returned (.bool true)∧R W') (k:∀ W',R W'→qq P N ops Q rest (dT σ d<|.bool true) W'):
 qq P N ops Q (⟨some d,.call ⟨.value fo,args,A⟩,ty,pos,af,none⟩::rest) σ w:=by
 obtain ⟨fn,tmps,a,b,I,E⟩:=V;unfold qq wpListIn;rw [if_pos (kh _ rfl _)];refine ⟨fun f _=>zy _ f,?_⟩;rw [Dk,PE _ _ _ (fun c e=>by cases e),jD];have hm:args.map (ev N σ)=L.toArray:=by rw [← G,← nR]
 have O:(execOp (ev N σ) ⟨some d,.call ⟨.value fo,args,A⟩,ty,pos,af,none⟩).run P w= .ok (.round l fn tmps a b) w:=by
  simp [execOp,resolve,J,sJ,invoke,hm,I]
 rw [O];simp only [Bw];refine ⟨fun C=>(by rw [wW] at C; cases C),?_⟩;have h1:RoundIn (fe N.r) (0 - 1) P l fn tmps a b w fun e W'=>e= .returned (.bool true)∧R W':=by
  cases hr:N.r with
  | none=>exact E
  | some k=>exact E
 refine RoundIn.mono h1 ?_;rintro e W' ⟨rfl,hw⟩;simp only;rw [ll];exact k W' hw
end
end Go.Hb
end
section
namespace Go.Hb
def fX (P:Program) (f:FuncId) (args:Array Value) (w:World) (R:Value→World→Prop) (Pn:List PanicEntry→World→Prop):Prop :=
 Calls P f args w fun e w'=>(∃ v,e= .returned v∧R v w')∨∃ c,e= .panicked c∧Pn c w'
def Kc (P:Program) (fn:Func) (N:Fm) (R:Value→World→Prop) (Pn:List PanicEntry→World→Prop):Exit→(Nat→Value)→World→Prop
 | .normal,σ,w=> ∃ v,(results fn (act N σ).tmps).run P w= .ok v w∧R v w
 | .ret,σ,w=> ∃ v,(results fn (act N σ).tmps).run P w= .ok v w∧R v w
 | .panic c,_,w=>Pn c w
 | _,_,_=>False
theorem kg {P:Program} {fn:Func} {N:Fm} {R:Value→World→Prop} {Pn:List PanicEntry→World→Prop} {e:Exit} {σ:Nat→Value} {w:World} (h:fin P fn N R e σ w):Kc P fn N R Pn e σ w:=by
 cases e <;> first | exact h | exact h.elim
theorem kH {P:Program} {f:FuncId} {N:Nat} {fn:Func} {c:Code} {args:List Value} {w:World} {R:Value→World→Prop} {Pn:List PanicEntry→World→Prop} (O:P.funcs[f]? =some fn) (J:fn.body=some c)
 (I:fn.ntmps=N) (hn:oT args.length N=true) (h:eA P ⟨N,[],[],none⟩ c (Kc P fn ⟨N,[],[],none⟩ R Pn) (nN args) w):fX P f args.toArray w R Pn:=by
 subst I;refine calls_of_wp O J ?_;rw [AH fn args [] hn];unfold eA at h;refine Pm ?_<|wpIn_wide.1 h;intro e a w A;cases e with
 | normal=>obtain ⟨σ,rfl,v,G,E⟩:=A; exact ⟨rfl,v,G,.inl ⟨v,rfl,E⟩⟩
 | ret=>obtain ⟨σ,rfl,v,G,E⟩:=A; exact ⟨rfl,v,G,.inl ⟨v,rfl,E⟩⟩
 | exit id=>obtain ⟨σ,rfl,C⟩:=A; exact C.elim
 | goto l=>obtain ⟨σ,rfl,C⟩:=A; exact C.elim
 | panic c=>obtain ⟨σ,rfl,C⟩:=A; exact ⟨rfl,.inr ⟨c,rfl,C σ fun _ _=>rfl⟩⟩
 | outgrown=>exact A.elim
section
variable {P:Program} {N:Fm} {Q:Exit→(Nat→Value)→World→Prop} {σ:Nat→Value} {w:World} {ops:Array Oper} {rest:List Oper} {dst:Option Nat} {ty:TypeId} {pos :String} {af:Array Edge} {g:Option (Nat×Bool)} {x:Operand}
def qs (P:Program) (N:Fm) (o:Oper) (σ:Nat→Value) (w:World) (K:(Nat→Value)→World→Prop) (Pn:List PanicEntry→World→Prop):Prop :=
 kt P o (act N σ) w (fun a w=> ∃ σ,a=act N σ∧K σ w) (fun e a w=>match e with | .panic c=>a=act N σ∧Pn c w | _=>False)
theorem Be {o:Oper} {K:(Nat→Value)→World→Prop} {Pn:List PanicEntry→World→Prop} {A:Act→World→Prop} (h:qs P N o σ w K Pn) (hk:∀ σ w,K σ w→A (act N σ) w) (hp:∀ c w',Pn c w'→∀ G,(∀ i∈N.F,G i=σ i)→Q (.panic c) G w'):o.wp P (act N σ) w A (lift N Q):=by
 unfold qs at h;unfold kt at*;generalize (execOp (act N σ).eval o).run P w=r at h ⊢;have C:∀ a w,(∃ σ,a=act N σ∧K σ w)→A a w:=by rintro a w ⟨σ,rfl,h⟩; exact hk _ _ h
 have E:∀ c (a:Act) w',(a=act N σ∧Pn c w')→lift N Q (.panic c) a w':=by rintro c a w' ⟨rfl,h⟩; exact ⟨σ,rfl,hp c w' h⟩
 cases r with
 | ok n w'=>
   cases n <;> simp only [my] at h ⊢ <;>
    first
     | exact C _ _ h
     | exact mu h (fun e w'' he=>by
      cases e with
      | returned v=>exact C _ _ he
      | panicked c=>exact E _ _ _ ⟨rfl,he.2⟩
      | outgrown=>obtain ⟨_,_,I⟩:=he; exact I.elim)
     | exact Gy h fun _ _ he=>C _ _ he
 | halt x w'=>cases x <;> simp only [my] at h ⊢ <;> exact E _ _ _ ⟨rfl,h.2⟩
theorem eh {f:FuncId} {args:Array Operand} {A:Array TypeId} {L:List Value} {R:Value→World→Prop} {Pn:List PanicEntry→World→Prop} {K:(Nat→Value)→World→Prop} (I:bl P f) (J:fX P f L.toArray w R Pn) (C:args.toList.map (ev N σ)=L)
 (k:∀ v w',R v w'→K (gH σ dst v) w'):qs P N ⟨dst,.call ⟨.value (.func f),args,A⟩,ty,pos,af,g⟩ σ w K Pn:=by
 unfold qs kt;have hm:args.map (ev N σ)=L.toArray:=by rw [← C,← nR]
 have O:(execOp (ev N σ) ⟨dst,.call ⟨.value (.func f),args,A⟩,ty,pos,af,g⟩).run P w= .ok (.enter f L.toArray) w:=by
  have h2:=I L.toArray w;simp [execOp,resolve,ev,sJ,invoke,hm,h2]
 rw [jD,O];simp only [my];refine mu J ?_;rintro e w' (⟨v,rfl,G⟩ | ⟨c,rfl,E⟩)
 · exact ⟨_,ll ..,k v w' G⟩
 · exact ⟨trivial,E⟩
theorem O2 {f:FuncId} {fo:Operand} {first cap:Array Value} {args:Array Operand} {A:Array TypeId} {L:List Value} {R:Value→World→Prop} {Pn:List PanicEntry→World→Prop} {K:(Nat→Value)→World→Prop} (I:bl P f) (O:ev N σ fo= .func (.func f) first cap) (J:fX P f L.toArray w R Pn) (C:first.toList++args.toList.map (ev N σ)++cap.toList=L)
 (k:∀ v w',R v w'→K (gH σ dst v) w'):qs P N ⟨dst,.call ⟨.value fo,args,A⟩,ty,pos,af,g⟩ σ w K Pn:=by
 unfold qs kt;have hm:first++args.map (ev N σ)++cap=L.toArray:=by rw [← C]; simp
 have V:(execOp (ev N σ) ⟨dst,.call ⟨.value fo,args,A⟩,ty,pos,af,g⟩).run P w= .ok (.enter f L.toArray) w:=by
  have h2:=I L.toArray w;simp only [execOp,resolve,O,sJ,invoke];simp [hm,h2]
 rw [jD,V];simp only [my];refine mu J ?_;rintro e w' (⟨v,rfl,G⟩ | ⟨c,rfl,E⟩)
 · exact ⟨_,ll ..,k v w' G⟩
 · exact ⟨trivial,E⟩
theorem eP {o:Oper} {Pn:List PanicEntry→World→Prop} (C:o.guard=none) (h:qs P N o σ w (fun σ w=>fg P N ops Q rest σ w) Pn) (hp:∀ c w',Pn c w'→∀ A,(∀ i∈N.F,A i=σ i)→Q (.panic c) A w'):fg P N ops Q (o::rest) σ w:=by
 unfold fg wpList;rw [if_pos (kh o C _)];refine .inl<|Be h (fun σ w hk=> ?_) hp;unfold fg at hk; exact hk
theorem pnc {t:TypeId} {v:Value} (E:ev N σ x= .iface t v) (hp:∀ A,(∀ i∈N.F,A i=σ i)→Q (.panic [{v:= .iface t v,recovered:=false}]) A w):fg P N ops Q (⟨dst,.panic x,ty,pos,af,none⟩::rest) σ w:=by
 unfold fg wpList;rw [if_pos (kh _ rfl _)];refine .inl ?_;unfold kt;have C:(execOp (ev N σ) ⟨dst,.panic x,ty,pos,af,none⟩).run P w= .halt (.panic<|.iface t v) w:=by
  simp [execOp,E,Instr.panic]
 rw [jD,C];exact ⟨σ,aa,hp⟩
theorem ZW {t:TypeId} {d:TypeDesc} {v:Value} (hu:P.underlying t=some d) (hd:(match d with | .interface _=>false | _=>true)=true) (A:ev N σ x=v):(execOp (ev N σ) ⟨dst,.makeInterface t x,ty,pos,af,g⟩).run P w= .ok (.value<|.iface t v) w:=by
 cases d <;> first | (cases hd; done) | simp [execOp,Instr.makeInterface,A,ee hu]
def tz (P:Program) (t:TypeId):Bool:=match P.underlying t with | some (.interface _)=>false | some _=>true | none=>false
theorem ZX {t:TypeId} {v:Value} (h:tz P t=true) (A:ev N σ x=v):(execOp (ev N σ) ⟨dst,.makeInterface t x,ty,pos,af,g⟩).run P w= .ok (.value<|.iface t v) w:=by
 unfold tz at h;cases hd:P.underlying t with
 | none=>rw [hd] at h; cases h
 | some d=>rw [hd] at h; exact ZW hd (by cases d <;> first | rfl | cases h) A
theorem taN {xt a:TypeId} {zv:Value} (hu:tz P a=true) (C:zeroV P a=some zv) (A:ev N σ x= .nilIface):(execOp (ev N σ) ⟨dst,.typeAssert x xt a true,ty,pos,af,g⟩).run P w= .ok (.value<|.tuple #[zv,.bool false]) w:=by
 unfold tz at hu;cases hd:P.underlying a with
 | none=>rw [hd] at hu; cases hu
 | some d=>rw [hd] at hu; cases d <;> first | (cases hu; done) | simp [execOp,PB,A,ee hd,yc C]
theorem taI {xt a:TypeId} {v:Value} (hu:tz P a=true) (A:ev N σ x= .iface a v):(execOp (ev N σ) ⟨dst,.typeAssert x xt a true,ty,pos,af,g⟩).run P w= .ok (.value<|.tuple #[v,.bool true]) w:=by
 unfold tz at hu;cases hd:P.underlying a with
 | none=>rw [hd] at hu; cases hu
 | some d=>rw [hd] at hu; cases d <;> first | (cases hu; done) | simp [execOp,PB,A,ee hd]
variable {S:World→Prop} {fuel:Nat} {bw:Array Bool}
theorem uZ {o:Oper} {Pn:List PanicEntry→World→Prop} (i:Nat) (hi:ops[i]? =some o) (E:oH ops bw i=true) (C:o.guard=none)
 (h:qs P N o σ w (fun σ w=>S w∧fF P N ops Q S fuel (bw.setIfInBounds i true) σ w) Pn) (hp:∀ c w',Pn c w'→∀ A,(∀ i∈N.F,A i=σ i)→Q (.panic c) A w'):fF P N ops Q S (fuel+1) bw σ w:=by
 unfold fF at*;refine wpAnyH_all (rs:= [i]) (by simpa [oH] using E) (by simp) ?_;intro k hk;obtain rfl :k=i:=by simpa using hk
 unfold wpOp;simp only [hi];rw [if_pos (kh _ C _)];exact .inl<|Be h (fun σ w hk=>hk) hp
end
section
variable {P:Program} {N:Fm} {Q:Exit→(Nat→Value)→World→Prop} {σ:Nat→Value} {w:World} {ops:Array Oper} {S:World→Prop} {fuel:Nat} {bw:Array Bool}
theorem Yg {o A:Oper} {Pn:List PanicEntry→World→Prop} (i j:Nat) (hi:ops[i]? =some o) (I:ops[j]? =some A) (J:((kP .any ops bw)== [i,j])=true) (E:o.guard=none) (G:A.guard=none)
 (h:qs P N o σ w (fun σ w=>S w∧fF P N ops Q S fuel (bw.setIfInBounds i true) σ w) Pn) (hp:∀ c w',Pn c w'→∀ C,(∀ i∈N.F,C i=σ i)→Q (.panic c) C w')
 (h1:dS P N A σ w (fun σ w=>S w∧fF P N ops Q S fuel (bw.setIfInBounds j true) σ w)):fF P N ops Q S (fuel+1) bw σ w:=by
 unfold fF at*;refine wpAnyH_all (rs:= [i,j]) (by simpa using J) (by simp) ?_;intro k hk;simp only [fG,vS,or_false] at hk;rcases hk with rfl | rfl
 · unfold wpOp;simp only [hi];rw [if_pos (kh _ E _)];exact .inl<|Be h (fun _ _ hk=>hk) hp
 · unfold wpOp;simp only [I];rw [if_pos (kh _ G _)];exact .inl<|sF h1 fun _ _ hk=>hk
end
section
variable {P:Program} {N:Fm} {Q:Exit→(Nat→Value)→World→Prop} {σ:Nat→Value} {w:World} {ops:Array Oper} {S:World→Prop} {fuel r:Nat} {bw:Array Bool}
theorem Mb {o:Oper} {Pn:List PanicEntry→World→Prop} (i:Nat) (hi:ops[i]? =some o) (I:oH ops bw i=true) (G:o.guard=none)
 (h:qs P N o σ w (fun σ w=>S w∧hY P N ops Q S r fuel (bw.setIfInBounds i true) σ w) Pn) (hp:∀ c w',Pn c w'→∀ C,(∀ i∈N.F,C i=σ i)→Q (.panic c) C w'):hY P N ops Q S r (fuel+1) bw σ w:=by
 unfold hY at*;have A:kP .any ops bw= [i]:=by simpa [oH] using I
 refine ⟨fun E=>absurd (A ▸ E) (by simp),fun k hk=> ?_⟩;rw [A] at hk;obtain rfl :k=i:=by simpa using hk
 unfold wpOp;simp only [hi];rw [if_pos (kh _ G _)];exact .inl<|Be h (fun σ w hk=>⟨fun _=>hk.1,hk.2⟩) hp
end
abbrev rI (P:Program) (fn:Func) (R:Value→World→Prop):Exit→Act→World→Prop :=bodyPostD P fn (fun e w'=> ∃ v,e= .returned v∧R v w')
theorem V9 {P:Program} {f:FuncId} {N:Nat} {fn:Func} {c:Code} {args:List Value} {w:World} {R:Value→World→Prop} (F:List Nat) (E:P.funcs[f]? =some fn) (C:fn.body=some c)
 (A:fn.ntmps=N) (hn:oT args.length N=true) (h:qp P ⟨N,[],F,none⟩ c (rI P fn R) (nN args) w):bm P f args.toArray w R:=by
 subst A;refine calls_of_wp_defers E C ?_;rw [AH fn args F hn];exact wpIn_wide.1 h
section
variable {P:Program} {n:Nat} {D:List Deferred} {F:List Nat} {σ:Nat→Value} {w:World} {fn:Func} {R:Value→World→Prop} {B:Exit→Act→World→Prop}
theorem Wv {v:Value} (C:(results fn (act ⟨n,[],F,none⟩ σ).tmps).run P w= .ok v w) (A:R v w):qb ⟨n,[],F,none⟩ (rI P fn R) .ret σ w:=⟨v,C,v,rfl,A⟩
theorem Zl:¬LetsOut (rI P fn R):=fun ⟨_,_,h⟩=>by obtain ⟨v,h,_⟩:=h; cases h
theorem VH {id d:Nat} {f:FuncId} (V:¬LetsOut B) {cs:Array Operand} {J O:TypeId} {G I:String} {C E:Array Edge} {y:Code} (A:Array Value) (Z:cs.toList.map (ev ⟨n,[],F,none⟩ σ)=A.toList) (hd:d < n)
 (h:qp P ⟨n,[{target:= .fn (.func f) A,args:= #[]}],F,none⟩ y B (dT σ d<|.func (.func f) #[] A) w):
 qp P ⟨n,[],F,none⟩ (.region id #[⟨some d,.makeFunc (.func f) #[] cs,J,G,C,none⟩,⟨none,.defer ⟨.value (.tmp d),#[],#[]⟩,O,I,E,none⟩] false) (Exit.then (y.wpIn (fe none) 0 P B) B) σ w:=by
 have ab:cs.map (ev ⟨n,[],F,none⟩ σ)=A:=Bp.1<|by rw [nR]; exact Z
 refine wpIn_region ?_;have Y:¬LetsOut (Exit.then (y.wpIn (fe none) 0 P B) B):=fun ⟨a,w,h⟩=>V ⟨a,w,h⟩;refine Eb (r:=none) Y aa _ _ _ ?_;show wpOps P _ _ [0,1] _ _;simp only [wpOps,P6,vP,List.getElem?_cons_succ];rw [if_pos (kh _ rfl _)];refine .inl ?_;unfold kt;have h1:(execOp (act ⟨n,[],F,none⟩ σ).eval ⟨some d,.makeFunc (.func f) #[] cs,J,G,C,none⟩).run P w= .ok (.value<|.func (.func f) #[] A) w:=by
  rw [jD,mf,ab]; simp
 rw [h1];simp only [my];rw [if_pos (kh _ rfl _),ll];refine .inl ?_;have h2:(execOp (act ⟨n,[],F,none⟩<|gH σ (some d)<|.func (.func f) #[] A).eval ⟨none,.defer ⟨.value (.tmp d),#[],#[]⟩,O,I,E,none⟩).run P w= .ok (.defer {target:= .fn (.func f) A,args:= #[]}) w:=by
  have ac:ev ⟨n,[],F,none⟩ (dT σ d<|.func (.func f) #[] A) (.tmp d)= .func (.func f) #[] A:=by
   show cond (iL d n) (dT σ d _ d) undef=_;rw [show iL d n=true from by simpa using hd];show dT σ d _ d=_;unfold dT; simp
  rw [jD];show (execOp (ev ⟨n,[],F,none⟩<|dT σ d<|.func (.func f) #[] A) _).run P w=_;simp [execOp,resolve,ac,sJ]
 rw [h2];exact h
end
theorem aar {P:Program} {ops:Array Oper} {Q:Exit→Act→List Frame→World→Prop} {cs:List Frame} (C:¬LetsOut fun e a w=>Q e a cs w):∀ (l:List Nat) (a:Act) (w:World),wpOps P ops (fun e a w=>Q e a cs w) l a w→wpOpsS P ops Q l a cs w:=by
 intro l
 induction l with
 | nil=>exact fun _ _ h=>h
 | cons i l A=>
   intro a w h;simp only [wpOps] at h;simp only [wpOpsS];cases ho:ops[i]? with
   | none=>simp only [ho] at h ⊢; exact A a w h
   | some o=>
     simp only [ho] at h ⊢;by_cases hw:Region.wanted o (yielded ops a.tmps)=true
     · rw [if_pos hw] at h ⊢;rcases h with h | h
       · unfold kt at h;generalize (execOp a.eval o).run P w=x at h;cases x with
         | ok n w'=>
           cases n <;> simp only [my] at h ⊢ <;>
            first
             | exact A _ _ h
             | exact mu h fun e w'' he=>by cases e <;> first | exact A _ _ he | exact he
             | exact Gy h fun v w'' he=>A _ _ he
         | halt x w'=>cases x <;> simp only [my] at h ⊢ <;> exact h
       · exact absurd h.2 C
     · rw [if_neg hw] at h ⊢;exact A _ _ h
theorem Zo {P:Program} {ops:Array Oper} {Q E:Exit→Act→World→Prop} (C:∀ e a w,Q e a w→E e a w) (G:¬LetsOut Q):∀ (l:List Oper) (a:Act) (w:World),wpList P ops Q l a w→wpList P ops E l a w:=by
 intro l
 induction l with
 | nil=>exact fun _ _ h=>C _ _ _ h
 | cons o l A=>
   intro a w h;unfold wpList at h ⊢;split at h
   · rename_i hw;rw [if_pos hw];rcases h with h | h
     · left;unfold kt at h ⊢;generalize (execOp a.eval o).run P w=x at h;cases x with
       | ok n w'=>
         cases n <;> simp only [my] at h ⊢ <;>
          first
           | exact A _ _ h
           | exact mu h (fun e w'' he=>by
            cases e with
            | returned v=>exact A _ _ he
            | panicked c=>exact C _ _ _ he
            | outgrown=>exact absurd he G)
           | exact Gy h fun v w'' he=>A _ _ he
       | halt x w'=>cases x <;> simp only [my] at h ⊢ <;> exact C _ _ _ h
     · exact absurd h.2 G
   · rename_i hw;rw [if_neg hw]; exact A _ _ h
theorem ID {P:Program} {f:FuncId} {fn:Func} {id N d:Nat} {ty:TypeId} {pos :String} {af:Array Edge} {rest:List Oper} {y:Code} {args:List Value} {w:World} {u G:FrameMode} {v:Value} {R:World→Prop}
 (ah:P.funcs[f]? =some fn) (ae:fn.body=some (.seq (.region id (⟨some d,.call ⟨.builtin .recover,#[],#[]⟩,ty,pos,af,none⟩::rest).toArray false) y)) (ac:fn.ntmps=N) (hn:oT args.length N=true)
 (ai:∀ (C:Frame) (cs:List Frame),C.mode=u→(recoverD (C::cs)=some (v,{C with mode:=G} ::cs))∨(recoverD (C::cs)=none∧v= .nilIface∧G=u))
 (h:fg P ⟨N,[],[],none⟩ (⟨some d,.call ⟨.builtin .recover,#[],#[]⟩,ty,pos,af,none⟩::rest).toArray (mY (fun σ w=>eA P ⟨N,[],[],none⟩ y (fin P fn ⟨N,[],[],none⟩ fun _ w=>R w) σ w)<|fin P fn ⟨N,[],[],none⟩ fun _ w=>R w) rest (dT (nN args) d v) w):
 CallsD P f args.toArray u w fun e I w'=> ∃ v,e= .returned v∧I=G∧R w':=by
 subst ac;refine callsD_of_wpS ah ae ?_;intro C cs hu;rw [AH fn args [] hn];refine wpS_seq<|wpS_region ?_;have aj:gX (⟨some d,.call ⟨.builtin .recover,#[],#[]⟩,ty,pos,af,none⟩::rest).toArray.size=0::(List.range' 1 rest.length):=by
  rw [qB,cV,List.range_eq_range',List.range'_succ]
 rw [aj];simp only [wpOpsS,P6,vP];rw [if_pos (kh _ rfl _)];have ak:(execOp (act ⟨fn.ntmps,[],[],none⟩<|nN args).eval ⟨some d,.call ⟨.builtin .recover,#[],#[]⟩,ty,pos,af,none⟩).run P w= .ok .recover w:=by
  rw [jD];simp [execOp,resolve,invoke,builtin]
 rw [ak];simp only;obtain ⟨J,O⟩:∃ J,J=({C with mode:=G} ::cs:List Frame):=⟨_,rfl⟩
 have ag:∀ X:Act→List Frame→Prop,X ((act ⟨fn.ntmps,[],[],none⟩<|nN args).put (some d) v) J→
  (match recoverD (C::cs) with
   | some (v,V)=>X ((act ⟨fn.ntmps,[],[],none⟩<|nN args).put (some d) v) V
   | none=>X ((act ⟨fn.ntmps,[],[],none⟩<|nN args).put (some d) .nilIface) (C::cs)):=by
  intro X aa;rcases ai C cs hu with h1 | ⟨h1,h2,h3⟩;rw [h1]; subst O; exact aa;rw [h1]; subst h2 h3;have :({C with mode:=G} :Frame)=C:=by subst hu; rfl
  rw [this] at O; subst O; exact aa
 refine ag (fun a V=>wpOpsS P _ _ _ a V w) ?_;rw [ll];refine aar ?_ _ _ _ ?_;rintro ⟨a,w,h⟩;simp only [Exit.thenS,bodyPostS] at h;obtain ⟨_,_,h,_⟩:=h; cases h;have h1:=wpOps_eq_wpList (P:=P) (ops:=(⟨some d,.call ⟨.builtin .recover,#[],#[]⟩,ty,pos,af,none⟩::rest).toArray) (Q:=fun e a w'=>Exit.thenS (Code.wpS P y (bodyPostS P fn C cs fun e I w'=> ∃ v,e= .returned v∧I=G∧R w')) (bodyPostS P fn C cs fun e I w'=> ∃ v,e= .returned v∧I=G∧R w') e a J w') rest 1 fun j=>by simp [Nat.add_comm]
 rw [h1];unfold fg at h;refine Zo ?_ El _ _ _ h;intro e a w' E;have ab:∀ (e:Exit) (σ:Nat→Value) (w':World),fin P fn ⟨fn.ntmps,[],[],none⟩ (fun _ w=>R w) e σ w'→bodyPostS P fn C cs (fun e I w'=> ∃ v,e= .returned v∧I=G∧R w') e (act ⟨fn.ntmps,[],[],none⟩ σ) J w':=by
  intro e σ w' A;cases e with
  | normal=>obtain ⟨v,Z,Y⟩:=A; exact ⟨rfl,G,O,v,Z,v,rfl,rfl,Y⟩
  | ret=>obtain ⟨v,Z,Y⟩:=A; exact ⟨rfl,G,O,v,Z,v,rfl,rfl,Y⟩
  | _=>exact A.elim
 cases e with
 | normal=>
   obtain ⟨σ,rfl,A⟩:=E;refine wpS_of_wp ?_;simp only [mY] at A;unfold eA at A;refine Pm ?_<|wpIn_wide.1 A;intro e a w' E;cases e with
   | panic c=>obtain ⟨σ,rfl,A⟩:=E; exact (A σ fun _ _=>rfl).elim
   | outgrown=>exact E.elim
   | _=>obtain ⟨σ,rfl,A⟩:=E; exact ab _ σ w' A
 | panic c=>obtain ⟨σ,rfl,A⟩:=E; exact (A σ fun _ _=>rfl).elim
 | outgrown=>exact E.elim
 | ret=>obtain ⟨σ,rfl,A⟩:=E; exact ab .ret σ w' A
 | exit i=>obtain ⟨σ,rfl,A⟩:=E; exact A.elim
 | goto i=>obtain ⟨σ,rfl,A⟩:=E; exact A.elim
section
variable {P:Program} {n:Nat} {F:List Nat} {σ:Nat→Value} {w:World} {fn:Func} {R:Value→World→Prop}
theorem Ww {g:FuncId} {A:Array Value} {M:World→Prop} (hu:(invoke (.fn (.func g) A) #[]).run P w= .ok (.enter g A) w)
 (E:CallsD P g A .returning w fun e G w'=> ∃ v,e= .returned v∧G= .returning∧M w') (C:∀ w',M w'→∃ v,(results fn (act ⟨n,[{target:= .fn (.func g) A,args:= #[]}],F,none⟩ σ).tmps).run P w'= .ok v w'∧R v w'):
 qb ⟨n,[{target:= .fn (.func g) A,args:= #[]}],F,none⟩ (rI P fn R) .ret σ w:=by
 refine leaves_cons (by simp) hu ?_;refine Pl E ?_;rintro e I w' ⟨v,rfl,rfl,hm⟩;obtain ⟨v2,h1,h2⟩:=C w' hm;exact ⟨v2,h1,v2,aa,h2⟩
theorem ox {g:FuncId} {A:Array Value} {M:World→Prop} {v:Value} (hu:(invoke (.fn (.func g) A) #[]).run P w= .ok (.enter g A) w)
 (E:CallsD P g A (.panicking [{v:=v,recovered:=false}]) w fun e G w'=> ∃ x,e= .returned x∧G= .panicking [{v:=v,recovered:=true}]∧M w') (C:∀ w',M w'→∃ v,(results fn (act ⟨n,[{target:= .fn (.func g) A,args:= #[]}],F,none⟩ σ).tmps).run P w'= .ok v w'∧R v w'):
 qb ⟨n,[{target:= .fn (.func g) A,args:= #[]}],F,none⟩ (rI P fn R) (.panic [{v:=v,recovered:=false}]) σ w:=by
 refine leaves_cons (by simp) hu ?_;refine Pl E ?_;rintro e I w' ⟨x,rfl,rfl,hm⟩;obtain ⟨v2,h1,h2⟩:=C w' hm;exact ⟨v2,h1,v2,aa,h2⟩
end
end Go.Hb
end
section
namespace Go.Hb
def nk (w:World) (B e n:Nat) (v:Value) (xs:List Value):Prop :=
 ∃ a cp,v= .slice a n cp∧n≤cp∧(xs= []∨∃ b o cur z,a=some ⟨b,o,none⟩∧B≤b∧w.heap[b]? =some (.cells cur e z)∧∀ (j:Nat) u,xs[j]? =some u→cur[o+j]? =some u)
theorem Tg.tgo {w:World} {B e n:Nat} {v:Value} {xs:List Value} (h:Tg w B e n v xs):nk w B e n v xs:=by
 obtain ⟨a,cp,rfl,G,A⟩:=h;refine ⟨a,cp,aa,G,A.imp id ?_⟩;rintro ⟨b,cur,z,C,E,I,A⟩;exact ⟨b,0,cur,z,C,E,I,fun j u hu=>by rw [Nat.zero_add]; exact A j u hu⟩
theorem nk.cells {w:World} {B e n cp:Nat} {a:Option Addr} {xs:List Value} (h:nk w B e n (.slice a n cp) xs):n≤cp∧aM w.heap a xs:=by
 obtain ⟨I,J,G,C,A⟩:=h;cases G;rcases A with h | ⟨b,o,cur,z,rfl,_,E,A⟩
 · subst h; exact ⟨C,aM.nil _ _⟩
 · refine ⟨C,fun _=>rfl,fun j u hu=> ?_⟩;show Hb.aW w.heap b (o+j)=_;rw [bg E]; exact A j u hu
theorem nk.slice {w:World} {B e n:Nat} {v:Value} {xs:List Value} (h:nk w B e n v xs):∃ a cp,v= .slice a n cp:=let ⟨a,cp,hv,_⟩:=h; ⟨a,cp,hv⟩
theorem nk.md {F:Nat→Prop} {w w':World} {B e n:Nat} {v:Value} {xs:List Value} (h:nk w B e n v xs) (hm:Md F w w') (E:∀ k,F k→∀ cur z,w.heap[k]?≠some (.cells cur e z)):nk w' B e n v xs:=by
 obtain ⟨a,cp,rfl,C,h | ⟨b,o,cur,z,rfl,G,A,I⟩⟩:=h
 · exact ⟨a,cp,aa,C,.inl h⟩
 · exact ⟨_,cp,aa,C,.inr ⟨b,o,cur,z,aa,G,by rw [hm.dE b (dO.1 A).1 (fun hk=>E b hk cur z A)]; exact A,I⟩⟩
theorem nk.qT {w:World} {B e n m cp:Nat} {a:Option Addr} {xs:List Value} (h:nk w B e (n+1) (.slice a (n+1) cp) xs) (I:xs.length=(n+1)*m):nk w B e n (.slice (gN a cp 1 m) n<|cp - 1) (xs.drop m):=by
 obtain ⟨O,V,G,Y,E⟩:=h;cases G;refine ⟨_,_,aa,ab,?_⟩;rcases E with rfl | ⟨b,o,cur,z,rfl,A,C,J⟩
 · exact .inl<|by simp
 · unfold gN;by_cases h1:cp=1
   · refine .inl<|fR ?_;obtain rfl :n=0:=ab;rw [fS,I]; omega
   · rw [if_neg h1];refine .inr ⟨b,o+1 *m,cur,z,?_,A,C,fun j u hu=> ?_⟩
     · rw [lL,nm]
     · rw [List.getElem?_drop] at hu;have :=J _ u hu;rw [show o+1 *m+j=o+(m+j) from by omega]; exact this
def eL (w:World) (B e:Nat) (vs:List Value) (A:List (List Nat)):Prop :=vs.length=A.length∧∀ (i:Nat) v l,vs[i]? =some v→A[i]? =some l→Tg w B e l.length v (l.map bo)
theorem eL.nil (w:World) (B e:Nat):eL w B e [] []:=⟨rfl,fun i v l A=>by simp at A⟩
theorem eL.md {F:Nat→Prop} {w w':World} {B e:Nat} {vs:List Value} {A:List (List Nat)} (h:eL w B e vs A) (hm:Md F w w') (C:∀ k,F k→∀ cur z,w.heap[k]?≠some (.cells cur e z)):eL w' B e vs A:=⟨h.1,fun i v l h1 h2=>(h.2 i v l h1 h2).md hm C⟩
theorem eL.wk {w w':World} {B e:Nat} {vs:List Value} {A:List (List Nat)} (h:eL w B e vs A) (hm:Wk w w'):eL w' B e vs A:=h.md hm fun _ hk=>hk.elim
theorem eL.mono {w:World} {B B' e:Nat} {vs:List Value} {A:List (List Nat)} (h:eL w B e vs A) (C:B'≤B):eL w B' e vs A:=⟨h.1,fun i v l h1 h2=>(h.2 i v l h1 h2).mono C⟩
theorem eL.snoc {w:World} {B e:Nat} {vs:List Value} {C:List (List Nat)} {v:Value} {l:List Nat} (A:eL w B e vs C) (G:Tg w B e l.length v (l.map bo)):eL w B e (vs++ [v]) (C++ [l]):=by
 refine ⟨by rw [bL,bL,A.1]; rfl,fun i I J h1 h2=> ?_⟩;have E:=A.1;by_cases hi:i < vs.length
 · rw [ng hi] at h1;rw [ng ab] at h2;exact A.2 i I J h1 h2
 · rw [nV ab] at h1;rw [nV ab,← E] at h2;cases hj:i - vs.length with
   | zero=>rw [hj] at h1 h2; cases h1; cases h2; exact G
   | succ j=>rw [hj] at h1; simp at h1
def jS (t ln:Nat) (e:Int):List PanicEntry:= [{v:= .iface t (.agg [.int .i64 1,.int .i64 (ln:Nat),.int .i64 e].toArray),recovered:=false}]
theorem eR {h:World} {b:Nat} {isK:Value→Prop} {f:Value→Option Value} (hm:di h.heap b isK f):tag h b=1:=let ⟨_,h1,_⟩:=hm; AW h1
def Wr (L:List Nat) (ms mt mc B:Nat) (w:World) (k:Nat):Prop :=B≤k∧(k=ms∨k=mt∨k=mc∨L.contains (tag w k)=true)
abbrev Mw (L:List Nat) (ms mt mc B:Nat) (w w':World):Prop :=Md (Wr L ms mt mc B w) w w'
section
variable {L:List Nat} {ms mt mc B:Nat} {w w' w'':World}
theorem Mw.trans (h:Mw L ms mt mc B w w') (A:Mw L ms mt mc B w' w''):Mw L ms mt mc B w w'':=by
 refine Md.trans' h A fun k hk hw=> ?_;refine Classical.byContradiction fun hn=> ?_;have :=Md.tag h hk hn;unfold Wr at hw;rw [this] at hw;exact hn hw
theorem Wk.mw (h:Wk w w'):Mw L ms mt mc B w w':=h.mono fun _ _ A=>A.elim
theorem Mw.of {F:Nat→Prop} (h:Md F w w') (E:TF w L F) (C:∀ k,F k→B≤k):Mw L ms mt mc B w w':=h.mono fun k _ A=>⟨C k A,.inr<|.inr<|.inr<|E k A⟩
theorem Mw.wk {w0:World} (A:Wk w0 w) (h:Mw L ms mt mc B w w') (C:w0.heap.size≤B):Wk w0 w':=Md.trans' A h fun k hk hw=>by have :=hw.1; omega
theorem Wr.ne (hs:tag w ms=1) (I:tag w mt=1) (G:tag w mc=1) {e:Nat} (E:L.contains (e+2)=false):∀ k,Wr L ms mt mc B w k→∀ cur z,w.heap[k]?≠some (.cells cur e z):=by
 rintro k ⟨_,rfl | rfl | rfl | h⟩ cur z C <;> have A:=dN C
 · omega
 · omega
 · omega
 · rw [A,E] at h; cases h
end
end Go.Hb
end
section
namespace Go.Hb
section
variable {P:Program} {N:Fm} {σ:Nat→Value} {w:World} {dst:Option Nat} {ty:TypeId} {pos :String} {af:Array Edge} {g:Option (Nat×Bool)} {x y:Operand}
theorem Wm (d:Nat) {t e:TypeId} {a:Option Addr} {n c:Nat} (hu:P.underlying t=some (.slice e)):(Op.equalIn (d+1) t (.slice a n c)<|.slice none 0 0).run P w= .ok a.isNone w:=by
 cases a <;> simp [Op.equalIn,ee hu]
theorem Wn {t e:TypeId} {a:Option Addr} {n c:Nat} (hu:P.underlying t=some (.slice e)):(Op.equal t (.slice a n c)<|.slice none 0 0).run P w= .ok a.isNone w:=Wm 9999 hu
theorem rW {t E e:TypeId} {a:Option Addr} {n c:Nat} (hu:P.underlying t=some (.slice e)) (A:ev N σ x= .slice a n c) (C:ev N σ y= .slice none 0 0):
 (execOp (ev N σ) ⟨dst,.binOp .eql t x y E,ty,pos,af,g⟩).run P w= .ok (.value<|.bool a.isNone) w:=by
 have h:(binOp .eql t (.slice a n c)<|.slice none 0 0).run P w= .ok (.bool a.isNone) w:=by
  simp only [binOp]; simp [Wn hu]
 simp [execOp,A,C,eqGuard,h]
end
def Rd (h:Array Obj) (v:Value) (n size:Nat) (xs:List Value):Prop := ∃ a c,v= .slice a n c∧aM h a xs∧xs.length=n*size∧(a=none→n=0)
theorem Rd.j6 {w:World} {B e size n:Nat} {v:Value} {xs:List Value} (h:w.ownsRow B e size v n xs):Rd w.heap v n size xs:=by
 obtain ⟨a,c,rfl,h1,_,_,h3⟩:=vk h;refine ⟨a,c,aa,h1,h.1,fun A=> ?_⟩;subst A;rcases h.2 with ⟨h4,h5⟩ | ⟨g,cap,cur,h4,_⟩
 · exact h5
 · simp at h4
theorem M3 {w:World} {B e size n k cp:Nat} {a:Option Addr} {xs:List Value} (h:w.ownsRow B e size (.slice a n cp) n xs) (hk:k≤n) (G:a≠none):w.ownsRow B e size (.slice a k cp) k (xs.take<|k*size):=by
 obtain ⟨A,h⟩:=h;refine ⟨by rw [dP,A]; exact qC (qD _ hk),?_⟩;rcases h with ⟨h1,_⟩ | ⟨g,cap,cur,h1,h2,h3,h4,h5,C,E⟩
 · simp only [nT] at h1; exact absurd h1.1 G
 · simp only [nT,true_and] at h1;obtain ⟨rfl,rfl⟩:=h1;refine .inr ⟨g,_,cur,aa,h2,h3,ab,h5,C,?_⟩;rw [← E,Qm,qC (qD _ hk)]
section
variable {P:Program} {N:Fm} {σ:Nat→Value} {w:World} {dst:Option Nat} {ty:TypeId} {pos :String} {af:Array Edge} {g:Option (Nat×Bool)} {x y z u:Operand} {K:(Nat→Value)→World→Prop}
theorem sl3 {t n len cap:Nat} {a:Option Addr} {k k' G:IntKind} {i j m:Nat} (he:gL P t=some n) (A:ev N σ x= .slice a len cap) (C:ev N σ y= .int k (i:Nat)) (E:ev N σ z= .int k' (j:Nat)) (hu:ev N σ u= .int G (m:Nat)) (h:i≤j∧j≤m∧m≤cap):
 (execOp (ev N σ) ⟨dst,.slice t x (some y) (some z) (some u),ty,pos,af,g⟩).run P w= .ok (.value<|.slice (gN a m i n) (j - i)<|m - i) w:=by
 have h1:(0:Int)≤(i:Int):=ab;have h2:(0:Int)≤(j:Int):=ab;have h3:(0:Int)≤(m:Int):=ab;unfold gL at he;cases hd:P.underlying t with
 | none=>rw [hd] at he; cases he
 | some d=>
   rw [hd] at he;cases d <;> first | (cases he; done) | skip
   rename_i e;cases hi':P.info? e with
   | none=>simp [hi'] at he
   | some q=>
     simp only [hi',lL,gD] at he;subst he;simp only [execOp,tS,Instr.slice,A,C,E,hu,lL,qu,Instr.sliceBound,asIntOf];simp [ee hd,jx hi',sizeOf,h.1,h.2.1,h.2.2,gN]
theorem Ra {t e size bytes B n m cp c A:Nat} {xs news:List Value} {a:Option Addr} (aa:gp P t e size bytes=true) (O:w.ownsRow B e size (.slice (some ⟨A,0,none⟩) n cp) n xs) (ab:ev N σ x= .slice (some ⟨A,0,none⟩) n cp)
 (ac:ev N σ y= .slice a m c) (G:aM w.heap a news) (I:a≠none) (J:news.length=m*size) (h1:news.all Value.oneCell'=true) (Z:n+m≤cp)
 (k:∀ w',Md (fun q=>q=A) w w'→w'.ownsRow B e size (.slice (some ⟨A,0,none⟩) (n+m) cp) (n+m) (xs++news)→K (gH σ dst<|.slice (some ⟨A,0,none⟩) (n+m) cp) w'):
 dS P N ⟨dst,.call ⟨.builtin .append,#[x,y],#[t,t]⟩,ty,pos,af,g⟩ σ w K:=by
 obtain ⟨hu,i,zv,hi,ah,hs,ae,ai,ag⟩:=sw aa;obtain ⟨ad,rfl⟩:∃ ad,a=some ad:=by cases a with | none=>exact absurd rfl I | some ad=>exact ⟨ad,rfl⟩
 have hn:∀ j v,news[j]? =some v→w.cell? (ad.add j)=some v:=fun j v C=>by
  have E:news≠[]:=fun e=>by rw [e] at C; simp at C
  have h2:=G.ok E;simp only [gD] at h2;rw [h2,nm,o7]; exact G.aW j v C
 obtain ⟨w',Y,h2,h3⟩:=Go.run_append_fits (P:=P) (w:=w) B t ty e i size hu hi hs A n cp xs O ad m c news J hn (wj h1) Z;refine nf (w':=w') (v:= .slice (some ⟨A,0,none⟩) (n+m) cp) ?_<|k w' ⟨h3.os,h3.output,h3.size,fun q V E=>h3.block q V fun e=>E<|vW e⟩ h2;simp [execOp,resolve,invoke,builtin,ab,ac,Y]
end
end Go.Hb
end
section
namespace Go.Hb
def rM (P:Program) (t:TypeId):Option (Nat×Nat):=
 match P.underlying t with
 | some (.array n e)=>(P.info? e).map fun i=>(n,i.size)
 | _=>none
section
variable {P:Program} {N:Fm} {σ:Nat→Value} {w:World} {dst:Option Nat} {ty:TypeId} {pos :String} {af:Array Edge} {g:Option (Nat×Bool)} {x y:Operand}
theorem kJ {t n C b off :Nat} {k:IntKind} {i:Int} (he:rM P t=some (n,C)) (E:ev N σ x= .pointer (some ⟨b,off,none⟩)) (G:ev N σ y= .int k i) (A:0≤i∧i < n):
 (execOp (ev N σ) ⟨dst,.indexAddr t x y,ty,pos,af,g⟩).run P w= .ok (.value<|.pointer<|some ⟨b,off+i.toNat*C,none⟩) w:=by
 unfold rM at he;cases hd:P.underlying t with
 | none=>rw [hd] at he; cases he
 | some d=>
   rw [hd] at he;cases d <;> first | (cases he; done) | skip
   rename_i m e;cases hi:P.info? e with
   | none=>simp [hi] at he
   | some j=>
     simp only [hi,lL,gD,ug] at he;obtain ⟨rfl,rfl⟩:=he;simp [execOp,Instr.indexAt,sK,E,G,asIntOf,ee hd,A.1,A.2,sizeOf,jx hi,nm]
end
theorem ZJ {h:Array Obj} {b:Nat} {a:List UInt8} (A:bS h b (marksOf a)) (c:UInt8):Hb.aW h b (0 +((c.toNat:Nat):Int).toNat*1)=some (.bool<|decide (c∈a)):=by
 rw [A.aW,show 0 +((c.toNat:Nat):Int).toNat*1=c.toNat from by omega]; exact ZG a c
theorem ZK {h:Array Obj} {b:Nat} {a:List UInt8} {c:UInt8} (A:bS h b ((marksOf a).set (0 +((c.toNat:Nat):Int).toNat*1)<|.bool true)):bS h b (marksOf<|a++ [c]):=by
 rw [show 0 +((c.toNat:Nat):Int).toNat*1=c.toNat from by omega,ZI] at A; exact A
end Go.Hb
end
section
namespace Go.Hb
theorem YR (c:UInt8):∀ l:List UInt8,PC l c=fJ c l:=by
 intro l
 induction l with
 | nil=>rfl
 | cons b l G=>
   unfold PC;rw [G];rw [show fJ c (b::l)=if (b::l).idxOf c < (b::l).length then ((b::l).idxOf c:Int) else -1 from rfl,List.idxOf_cons];by_cases h:(b==c)=true
   · rw [if_pos h,h]; rfl
   · have C:(b==c)=false :=by simpa using h
     rw [if_neg h,C];simp only [cond_false,cV];by_cases h1:l.idxOf c < l.length
     · have A:fJ c l=l.idxOf c:=if_pos h1;rw [A,if_neg (fun E=>by have :=eq_of_beq E; omega),if_pos ab]; rfl
     · have A:fJ c l= -1:=if_neg h1;rw [A,if_pos aB,if_neg ab]
theorem abK {P:Program} {f:FuncId} {fn:Func} (C:P.funcs[f]? =some fn) (E:(fn.name== "runtime.NumGoroutine")=false) (A:fn.body.isNone=true) (hn:Pt fn=none)
 (he:Ps fn=some ad4) (l:List UInt8) (c:UInt8) (w:World):(callFunc f #[str l,.int .u8 c.toNat]).run P w= .ok (.value<|.int .i64<|fJ c l) w:=by
 rw [run_callFunc_extern C E A hn he];unfold str;rw [Lib.run_indexByteString];have h1:((c.toNat:Int)).toNat.toUInt8=c:=lM.1<|by simp
 rw [h1,YR];rfl
theorem abJ {P:Program} {f:FuncId} {fn:Func} (C:P.funcs[f]? =some fn) (E:(fn.name== "runtime.NumGoroutine")=false) (A:fn.body.isNone=true) (hn:Pt fn=none)
 (he:Ps fn=some ad3) (l:List UInt8) (c:UInt8) (w:World):(callFunc f #[str l,.int .u8 c.toNat]).run P w= .ok (.value<|.int .i64 (l.count c:Nat)) w:=by
 rw [run_callFunc_extern C E A hn he];unfold str;rw [Lib.run_countString];have h1:((c.toNat:Int)).toNat.toUInt8=c:=lM.1<|by simp
 rw [h1];rfl
section
variable {P:Program} {N:Fm} {σ:Nat→Value} {w:World} {dst:Option Nat} {ty:TypeId} {pos :String} {af:Array Edge} {g:Option (Nat×Bool)}
theorem IU {f:FuncId} {a b v:Value} {args:Array Operand} {A:Array TypeId} (h:(callFunc f #[a,b]).run P w= .ok (.value v) w) (C:args.toList.map (ev N σ)= [a,b]):
 (execOp (ev N σ) ⟨dst,.call ⟨.value (.func f),args,A⟩,ty,pos,af,g⟩).run P w= .ok (.value v) w:=by
 have :args.map (ev N σ)= #[a,b]:=by rw [← Bp,nR,C]
 simp [execOp,resolve,ev,sJ,invoke,this,h]
end
end Go.Hb
end
section
namespace Go.Hb
theorem abT {L:List Value} {o:Nat} {v:Value} (h:o < L.length):(L.set o v).take (o+1)=L.take o++ [v]:=by
 rw [List.set_eq_take_append_cons_drop,if_pos h,yD,dP,qC ab,Nat.add_sub_cancel_left,e9 (by rw [dP]; omega)];rfl
theorem abS {L:List Value} {o m:Nat} {v:Value} (h:o < m):(L.set o v).drop m=L.drop m:=by
 rw [List.drop_set,if_pos h]
theorem NQ (b e:Nat):∀ (vs:List Value) (o:Nat) (L:List Value) (w:World),w.heap[b]? =some (.cells L.toArray e (0,0))→o+vs.length≤L.length→
 (w.setCells b o vs).heap[b]? =some (.cells (L.take o++vs++L.drop (o+vs.length)).toArray e (0,0))∧Md (fun k=>k=b) w (w.setCells b o vs):=by
 intro vs
 induction vs with
 | nil=>intro o L w A _; exact ⟨by simpa [World.setCells] using A,Md.refl _ _⟩
 | cons v r J=>
   intro o L w A E;simp only [cV] at E;have h1:(w.setCell ⟨b,o,none⟩ v).heap[b]? =some (.cells (L.set o v).toArray e (0,0)):=by
    have G:=(dO.1 A).1;have I:w.heap[b]= .cells L.toArray e (0,0):=(dO.1 A).2;simp only [BA];rw [Array.getElem?_eq_getElem (by simpa using G),Array.getElem_modify];simp [I,List.setIfInBounds_toArray]
   have C:Md (fun k=>k=b) w (w.setCell ⟨b,o,none⟩ v):=⟨rfl,rfl,by simp [BA],fun k _ hk=>Below.heap_setCell w _ v k hk⟩
   obtain ⟨h2,h3⟩:=J (o+1) (L.set o v) _ h1<|by rw [List.length_set]; omega
   refine ⟨?_,Md.trans C h3⟩;show ((w.setCell ⟨b,o,none⟩ v).setCells b (o+1) r).heap[b]? =_;rw [h2,abT ab,abS ab,cV,show o+1 +r.length=o+(r.length+1) from by omega];simp
section
variable {P:Program} {N:Fm} {σ:Nat→Value} {w:World} {ty:TypeId} {pos :String} {af:Array Edge} {g:Option (Nat×Bool)} {x:Operand} {K:(Nat→Value)→World→Prop}
theorem Un {t e B n k cp G m:Nat} {a:Option Addr} {xs:List Value} {z:Value} (ak:P.underlying t=some (.slice e)) (am:zeroV P e=some z) (h1:z.oneCell'=true) (ae:w.ownsRow B e 1 (.slice a n cp) n xs)
 (I:ev N σ x= .slice (gN a cp k 1) m G) (hm:m=n - k) (hk:k < n) (an:∀ w',Md (fun q=>(bW a n cp).ownBlock=some q) w w'→w'.ownsRow B e 1 (.slice a n cp) n (xs.take k++kR (n - k) z)→K σ w'):
 dS P N ⟨none,.call ⟨.builtin .clear,#[x],#[t]⟩,ty,pos,af,g⟩ σ w K:=by
 obtain ⟨O,h⟩:=ae;subst hm;rcases h with ⟨h,rfl⟩ | ⟨A,ao,cur,h,V,Z,hle,Y,aj,al⟩
 · omega
 · simp only [nT,true_and] at h;obtain ⟨rfl,rfl⟩:=h;have ai:gN (some ⟨A,0,none⟩) cp k 1=some ⟨A,k,none⟩:=by
    unfold gN; rw [if_neg ab]; simp [nm]
   rw [ai] at I;have E:w.heap[A]? =some (.cells cur.toList.toArray e (0,0)):=by simpa using Z
   have C:cur.toList.length=cp*1:=by rw [ye]; exact aj
   have ah:=PD (P:=P) w t e ty z ak (fun w=>yc am w) (by cases z <;> first | rfl | (cases h1; done)) h1 A k (n - k) G ab
    (fun j ac=>by rw [o7,bg E]; simp; omega) (fun j ac=>by simp only [PO,show w.heap[A]? =_ from E]; simp)
   obtain ⟨h2,h3⟩:=NQ A e (kR (n - k) z) k cur.toList w E<|by rw [pV,C]; omega
   refine nf (w':=w.setCells A k<|kR (n - k) z) (v:= .tuple #[]) ?_ (an _ (h3.mono fun q _ ag=>by subst ag; rfl) ⟨?_,.inr ⟨A,cp,_,aa,V,h2,hle,Y,?_,?_⟩⟩)
   · simp [execOp,resolve,invoke,builtin,I,ah]
   · rw [bL,dP,pV,O]; omega
   · simp only [qB,bL,dP,fS,pV,C]; omega
   · rw [pV,vV];have J:(cur.toList.take k++kR (n - k) z++cur.toList.drop (k+(n - k))).toArray.toList=(cur.toList.take k++kR (n - k) z)++cur.toList.drop (k+(n - k)):=rfl;rw [J,yD,bL,dP,pV,C,qC ab,show n - (k+(n - k))=0 by omega,mA,eB,e9 (by rw [bL,dP,pV,C]; omega)];rw [← al,Qm,vV,qC ab]
theorem Uo {t e B n cp G m:Nat} {a:Option Addr} {xs:List Value} {z:Value} (al:P.underlying t=some (.slice e)) (an:zeroV P e=some z) (h1:z.oneCell'=true) (ag:w.ownsRow B e 1 (.slice a n cp) n xs) (Y:a≠none)
 (I:ev N σ x= .slice (gN a cp n 1) m G) (hm:0 < m∧n+m≤cp) (ao:∀ w',Md (fun q=>(bW a n cp).ownBlock=some q) w w'→w'.ownsRow B e 1 (.slice a n cp) n xs→K σ w'):
 dS P N ⟨none,.call ⟨.builtin .clear,#[x],#[t]⟩,ty,pos,af,g⟩ σ w K:=by
 obtain ⟨O,h⟩:=ag;rcases h with ⟨h,rfl⟩ | ⟨A,ap,cur,h,V,ac,hle,Z,ak,am⟩
 · simp only [nT] at h; exact absurd h.1 Y
 · simp only [nT,true_and] at h;obtain ⟨rfl,rfl⟩:=h;have aj:gN (some ⟨A,0,none⟩) cp n 1=some ⟨A,n,none⟩:=by
    unfold gN; rw [if_neg ab]; simp [nm]
   rw [aj] at I;have E:w.heap[A]? =some (.cells cur.toList.toArray e (0,0)):=by simpa using ac
   have C:cur.toList.length=cp*1:=by rw [ye]; exact ak
   have ai:=PD (P:=P) w t e ty z al (fun w=>yc an w) (by cases z <;> first | rfl | (cases h1; done)) h1 A n m G hm.1
    (fun j ae=>by rw [o7,bg E]; simp; omega) (fun j ae=>by simp only [PO,show w.heap[A]? =_ from E]; simp)
   obtain ⟨h2,h3⟩:=NQ A e (kR m z) n cur.toList w E<|by rw [pV,C]; omega
   refine nf (w':=w.setCells A n<|kR m z) (v:= .tuple #[]) ?_ (ao _ (h3.mono fun q _ ah=>by subst ah; rfl) ⟨O,.inr ⟨A,cp,_,aa,V,h2,hle,Z,?_,?_⟩⟩)
   · simp [execOp,resolve,invoke,builtin,I,ai]
   · simp only [qB,bL,dP,fS,pV,C]; omega
   · rw [pV,vV];have J:(cur.toList.take n++kR m z++cur.toList.drop (n+m)).toArray.toList=cur.toList.take n++(kR m z++cur.toList.drop (n+m)):=eS _ _ _;rw [J,yD,dP,C,qC ab,Nat.sub_self,mA,eB,e9 (by rw [dP]; omega),← am,vV]
end
end Go.Hb
end
section
namespace Go.Hb
def Cc (P:Program) (t:TypeId):Option (List Value):=
 match P.info? t,P.underlying t with
 | some it,some (.array _ e)=>
   match it.zero,P.info? e with
   | some z,some ie=>if ie.size=1 then some z.cells.toList else none
   | _,_=>none
 | _,_=>none
def xO:List Value→List (Nat×Value)→Option (List Value)
 | A,[]=>some A
 | A,(i,v)::r=>if (v.oneCell' && iL i A.length)=true then xO (A.set i v) r else none
theorem aa2 {A L:List Value} {ps:List (Nat×Value)} (h:xO A ps=some L):nS (fun i=>some (i*1,1)) A.toArray ps=some L.toArray:=by
 induction ps generalizing A with
 | nil=>simp only [xO,gD] at h; subst h; rfl
 | cons q r G=>
   obtain ⟨i,v⟩:=q;rw [xO] at h;split at h
   · rename_i C;simp only [jl] at C;have E:=sn C.1;have I:i < A.length:=sU C.2;simp only [nS,E,vV];rw [if_neg (by simp; omega)];have :=G h;simp only [vV] at this;rw [← this];simp
   · cases h
section
variable {P:Program} {N:Fm} {σ:Nat→Value} {w:World} {dst:Option Nat} {ty:TypeId} {pos :String} {af:Array Edge} {g:Option (Nat×Bool)}
theorem Hw {t:TypeId} {parts:Array (Nat×Operand)} {A L:List Value} {ps:List (Nat×Value)} (h:Cc P t=some A) (hp:parts.toList.map (fun q=>(q.1,ev N σ q.2))=ps) (C:xO A ps=some L):
 (execOp (ev N σ) ⟨dst,.build t parts,ty,pos,af,g⟩).run P w= .ok (.value<|.agg L.toArray) w:=by
 unfold Cc at h;split at h
 · rename_i it n e hi hu;split at h
   · rename_i z I G he;split at h
     · rename_i hs;simp only [gD] at h;subst h;have E:P.built t (parts.map fun q=>(q.1,ev N σ q.2)).toList=some L.toArray:=by
        have :=aa2 C;simp only [Bn] at this;simp only [Program.built,hi,hu,G,he,hs,nR,hp]; exact this
       simp [execOp,run_build w t _ _ E]
     · cases h
   · cases h
 · cases h
end
end Go.Hb
end
section
namespace Go.Hb
abbrev bC:Type :=Tx×List Nat
noncomputable def gl (F:aU) (row:List Tx):Except Nat bC:=
 if row.length≠1 then .error 111
 else if (bF<|row.getD 0 []).2.2.2≠0 then .error (bF<|row.getD 0 []).2.2.2
 else if gQ (bF<|row.getD 0 []).1=false∨(bF<|row.getD 0 []).1= [] then .error 21
 else if 64 < (bF<|row.getD 0 []).1.length then .error 22
 else if (bF<|row.getD 0 []).2.2.1=false then .ok ((bF<|row.getD 0 []).1,[])
 else match gA F.kind F.aliases (bF<|row.getD 0 []).2.1 with
  | .error e=> .error e
  | .ok set =>if set.all (eV F)=true then .ok ((bF<|row.getD 0 []).1,set) else .error 120
section
variable {F:aU} {row:List Tx}
theorem JE (h:row.length≠1):gl F row= .error 111:=if_pos h
theorem zr (h:row.length=1) (h1:(bF<|row.getD 0 []).2.2.2≠0):gl F row= .error (bF<|row.getD 0 []).2.2.2:=by
 unfold gl; rw [if_neg (fun h2=>h2 h),if_pos h1]
variable (h:row.length=1) (h1:(bF (row.getD 0 [])).2.2.2=0)
include h h1
theorem zt (h2:gQ (bF<|row.getD 0 []).1=false∨(bF<|row.getD 0 []).1= []):gl F row= .error 21:=by
 unfold gl; rw [if_neg (fun h2=>h2 h),if_neg (fun h2=>h2 h1),if_pos h2]
variable (h2:gQ (bF (row.getD 0 [])).1=true) (h3:(bF (row.getD 0 [])).1≠[])
include h2 h3
omit h h1 in
theorem wO:¬(gQ (bF<|row.getD 0 []).1=false∨(bF<|row.getD 0 []).1= []):=fun h=>h.elim (fun h=>by rw [h2] at h; cases h) h3
theorem JF (h4:64 < (bF<|row.getD 0 []).1.length):gl F row= .error 22:=by
 unfold gl; rw [if_neg (fun h2=>h2 h),if_neg (fun h2=>h2 h1),if_neg (wO h2 h3),if_pos h4]
variable (h4:¬64 < (bF (row.getD 0 [])).1.length)
include h4
theorem JG (h5:(bF<|row.getD 0 []).2.2.1=false):gl F row= .ok ((bF<|row.getD 0 []).1,[]):=by
 unfold gl; rw [if_neg (fun h2=>h2 h),if_neg (fun h2=>h2 h1),if_neg (wO h2 h3),if_neg h4,if_pos h5]
variable (h5:(bF (row.getD 0 [])).2.2.1=true)
include h5
theorem JH {e:Nat} (A:gA F.kind F.aliases (bF<|row.getD 0 []).2.1= .error e):gl F row= .error e:=by
 unfold gl; rw [if_neg (fun h2=>h2 h),if_neg (fun h2=>h2 h1),if_neg (wO h2 h3),if_neg h4,if_neg (by rw [h5]; exact ep),A]
theorem JI {set :List Nat} {i:Nat} (A:gA F.kind F.aliases (bF<|row.getD 0 []).2.1= .ok set) (hi:i < set.length) (C:eV F (set.getD i 0)=false):gl F row= .error 120:=by
 unfold gl; rw [if_neg (fun h2=>h2 h),if_neg (fun h2=>h2 h1),if_neg (wO h2 h3),if_neg h4,if_neg (by rw [h5]; exact ep),A];exact if_neg<|by rw [Hl 0 hi C]; exact ep
theorem Dc {set :List Nat} (A:gA F.kind F.aliases (bF<|row.getD 0 []).2.1= .ok set) (C:∀ i,i < set.length→eV F (set.getD i 0)=true):gl F row= .ok ((bF<|row.getD 0 []).1,set):=by
 unfold gl; rw [if_neg (fun h2=>h2 h),if_neg (fun h2=>h2 h1),if_neg (wO h2 h3),if_neg h4,if_neg (by rw [h5]; exact ep),A];exact if_pos<|Hm 0 C
end
noncomputable def fA (F:aU) (eof:Nat):Nat→List Rw→Except (Nat×Nat) (List bC)
 | 0,[]=> .ok []
 | _+1,[]=> .error (eof,116)
 | 0,(ln,_)::_=> .error (ln,116)
 | n+1,(ln,row)::rows=>match gl F row with
   | .error e=> .error (ln,e)
   | .ok x=>match fA F eof n rows with
     | .error e=> .error e
     | .ok r=> .ok (x::r)
noncomputable def fN (F:aU) (t:Tx):Except (Nat×Nat) (List bC):=
 if 65536 < t.length then .error (0,10)
 else match bZ t with
  | []=> .error ((bP t).length+1,116)
  | (ln,row)::rows=>if row.length≠1 then .error (ln,111) else match fw (row.getD 0 []) 8192 with
    | .error e=> .error (ln,e)
    | .ok n=>fA F ((bP t).length+1) n rows
def jo (F:aU) (eof:Nat) (T:Except (Nat×Nat) (List bC)) (xs:List bC) (n:Nat) (rows:List Rw):Prop :=
 T=match fA F eof n rows with
  | .error e=> .error e
  | .ok r=> .ok<|xs++r
section
variable {F:aU} {eof n ln:Nat} {T:Except (Nat×Nat) (List bC)} {xs:List bC} {rows:List Rw} {row:List Tx}
theorem jo.start:jo F eof (fA F eof n rows) [] n rows:=by
 unfold jo; cases fA F eof n rows <;> rfl
theorem jo.done (h:jo F eof T xs 0 []):T= .ok xs:=by
 unfold jo at h; rw [fA] at h; simpa using h
theorem jo.ends (h:jo F eof T xs n []) (hn:0 < n):T= .error (eof,116):=by
 obtain ⟨m,rfl⟩:∃ m,n=m+1:=⟨n - 1,ab⟩
 unfold jo at h; rw [fA] at h; exact h
theorem jo.more (h:jo F eof T xs 0 ((ln,row)::rows)):T= .error (ln,116):=by
 unfold jo at h; rw [fA] at h; exact h
theorem jo.bad {e:Nat} (h:jo F eof T xs n ((ln,row)::rows)) (hn:0 < n) (he:gl F row= .error e):T= .error (ln,e):=by
 obtain ⟨m,rfl⟩:∃ m,n=m+1:=⟨n - 1,ab⟩
 unfold jo at h; rw [fA,he] at h; exact h
theorem jo.step {x:bC} (h:jo F eof T xs n ((ln,row)::rows)) (hn:0 < n) (he:gl F row= .ok x):jo F eof T (xs++ [x]) (n - 1) rows:=by
 obtain ⟨m,rfl⟩:∃ m,n=m+1:=⟨n - 1,ab⟩
 unfold jo at h ⊢; rw [fA,he] at h;rw [h,ud];simp only;cases fA F eof m rows <;> simp
end
section
variable {F:aU} {t:Tx}
theorem Jt (h:65536 < t.length):fN F t= .error (0,10):=if_pos h
theorem Ju (h:¬65536 < t.length) (h1:bZ t= []):fN F t= .error ((bP t).length+1,116):=by
 unfold fN; rw [if_neg h,h1]
variable {ln:Nat} {row:List Tx} {rows:List Rw} (h:¬65536 < t.length) (h1:bZ t=(ln,row)::rows)
include h h1
theorem VJ (h2:row.length≠1):fN F t= .error (ln,111):=by
 unfold fN; rw [if_neg h,h1]; exact if_pos h2
theorem VM (h2:row.length=1) {e:Nat} (h3:fw (row.getD 0 []) 8192= .error e):fN F t= .error (ln,e):=by
 unfold fN; rw [if_neg h,h1]; simp only; rw [if_neg (fun h=>h h2),h3]
theorem Js (h2:row.length=1) {n:Nat} (h3:fw (row.getD 0 []) 8192= .ok n):fN F t=fA F ((bP t).length+1) n rows:=by
 unfold fN; rw [if_neg h,h1]; simp only; rw [if_neg (fun h=>h h2),h3]
end
theorem Xt {α:Type} {a b:List α} {i:Nat} {d:α} (h:i < a.length):(a++b).getD i d=a.getD i d:=by
 rw [cX,cX,ng h]
def idxs (s:Tx) (xs:List bC):List Nat:=(gX xs.length).filter fun i=>decide ((xs.getD i ([],[])).1=s)
theorem Ea (s:Tx) (xs:List bC) (x:bC):idxs s (xs++ [x])=idxs s xs++(if x.1=s then [xs.length] else []):=by
 unfold idxs;rw [bL,fu,List.range_succ,List.filter_append];congr 1
 · refine List.filter_congr fun i hi=> ?_;have hi:i < xs.length:=by simpa using hi
   rw [Xt hi]
 · by_cases A:x.1=s <;> simp [List.filter,A]
theorem D9 (s:Tx) (xs:List bC):(idxs s xs).length≤xs.length:=by
 unfold idxs; have :=sS (fun i=>decide ((xs.getD i ([],[])).1=s)) (gX xs.length); simpa using this
theorem Wc {F:aU} {eof:Nat} :∀ {n:Nat} {rows:List Rw} {r:List bC},fA F eof n rows= .ok r→r.length=n∧rows.length=n:=by
 intro n
 induction n with
 | zero=>
   intro rows r h;cases rows with
   | nil=>rw [fA] at h; cases h; exact ⟨rfl,rfl⟩
   | cons q rows=>rw [fA] at h; cases h
 | succ n A=>
   intro rows r h;cases rows with
   | nil=>rw [fA] at h; cases h
   | cons q rows=>
     rw [fA] at h;split at h
     · cases h
     · split at h
       · cases h
       · rename_i h2;cases h;have :=A h2;simp only [cV]; omega
end Go.Hb
end
section
namespace Go.Hb
section
variable {P:Program} {N:Fm} {σ:Nat→Value} {w:World} {dst:Option Nat} {ty:TypeId} {pos :String} {af:Array Edge} {g:Option (Nat×Bool)} {x:Operand}
theorem Rg {t n C b:Nat} (he:rM P t=some (n,C)) (A:ev N σ x= .pointer (some ⟨b,0,none⟩)):
 (execOp (ev N σ) ⟨dst,.slice t x none none none,ty,pos,af,g⟩).run P w= .ok (.value<|.slice (some ⟨b,0,none⟩) n n) w:=by
 unfold rM at he;cases hd:P.underlying t with
 | none=>rw [hd] at he; cases he
 | some d=>
   rw [hd] at he;cases d <;> first | (cases he; done) | skip
   rename_i m e;cases hi:P.info? e with
   | none=>simp [hi] at he
   | some j=>
     simp only [hi,lL,gD,ug] at he;obtain ⟨rfl,rfl⟩:=he;simp [execOp,tS,sK,qu,A,ee hd,sizeOf,jx hi,nm]
def Dm (P:Program) (t f:Nat):Option (Nat×Nat):=
 match P.underlying t with
 | some (.struct fs)=>(fs[f]?).map fun d=>(d.type,d.offset)
 | _=>none
theorem WR {t f C off n:Nat} {cs vs:List Value} (h:Dm P t f=some (C,off)) (A:dG P C=some (some n)) (I:ev N σ x= .agg cs.toArray) (G:(cs.drop off).take n=vs):
 (execOp (ev N σ) ⟨dst,.field t x f,ty,pos,af,g⟩).run P w= .ok (.value<|.agg vs.toArray) w:=by
 subst G;unfold Dm at h;cases hd:P.underlying t with
 | none=>rw [hd] at h; cases h
 | some d=>
   rw [hd] at h;cases d <;> first | (cases h; done) | skip
   rename_i fs;simp only [nY] at h;obtain ⟨fd,E,he⟩:=h;cases he;unfold dG at A;cases hd2:P.underlying fd.type with
   | none=>rw [hd2] at A; cases A
   | some d2=>
     rw [hd2] at A;cases hi:P.info? fd.type with
     | none=>simp [PF,hi] at hd2
     | some i=>
       rw [hi] at A;have J:cs.toArray.extract fd.offset (fd.offset+n)=((cs.drop fd.offset).take n).toArray:=by simp
       cases d2 <;> first
        | (cases A; done)
        | (simp only [lL,gD] at A; subst A
           simp [execOp,Pw,ee hd,E,I,asAgg,part,isAgg,ee hd2,sizeOf,jx hi])
end
end Go.Hb
end
section
namespace Go.Hb
def pf:dy:=⟨0,0,false,0,0⟩
def iq (F:aU):dy:=F.bE.getD (F.bE.length - 1) pf
noncomputable def jG (F:aU) (ln:Nat) (row:List Tx):Except Nat aU:=
 if row.getD 0 []=fK then (match lf ln row with | .error e=> .error e | .ok x=> .ok {F with dA:=F.dA++ [x]})
 else if row.getD 0 []=eX then (match kX F.kind ln row with | .error e=> .error e | .ok x=> .ok {F with aliases:=F.aliases++ [x]})
 else match gd F.kind F.aliases (iq F) ln row with | .error e=> .error e | .ok x=> .ok {F with rules:=F.rules++ [x]}
noncomputable def iF (hd:List Tx) (eof:Nat):Nat→aU→List Rw→Except (Nat×Nat) (aU×List Rw)
 | 0,F,rows=> .ok (F,rows)
 | _+1,F,[]=> .error (eof,116)
 | n+1,F,(ln,row)::rows=>if row.take hd.length≠hd then .error (ln,116) else match jG F ln row with
   | .error e=> .error (ln,e)
   | .ok F'=>iF hd eof n F' rows
theorem AX {row:List Tx} {k:Tx} (h:row≠[]):row.take [k].length= [k]↔row.getD 0 []=k:=by
 cases row with
 | nil=>exact absurd rfl h
 | cons a l=>simp
theorem AY {row:List Tx} {k j:Tx} :row.take [k,j].length= [k,j]↔2≤row.length∧row.getD 0 []=k∧row.getD 1 []=j:=by
 match row with
 | []=>simp
 | [a]=>simp
 | a::b::l=>simp
section
variable {eof:Nat}
theorem XC:∀ (n:Nat) (F:aU) (rows:List Rw),iF [fK] eof n F rows=match group [fK] lf eof n rows with | .error e=> .error e | .ok r=> .ok ({F with dA:=F.dA++r.1},r.2):=by
 intro n
 induction n with
 | zero=>intro F rows; simp [iF,group]
 | succ n E=>
   intro F rows;cases rows with
   | nil=>simp [iF,group]
   | cons q rows=>
     obtain ⟨ln,row⟩:=q;simp only [iF,group];by_cases A:row.take [fK].length≠[fK]
     · rw [if_pos A,if_pos A]
     · rw [if_neg A,if_neg A];have C:row.getD 0 []=fK:=by
        refine (AX ?_).1<|jM.1 A;rintro rfl; exact A<|by simp
       unfold jG;rw [if_pos C];cases lf ln row with
       | error e=>rfl
       | ok x=>
         simp only;rw [E];cases group [fK] lf eof n rows with
         | error e=>rfl
         | ok r=>simp only [eS]; rfl
theorem XB:∀ (n:Nat) (F:aU) (rows:List Rw),iF [eX] eof n F rows=match group [eX] (kX F.kind) eof n rows with | .error e=> .error e | .ok r=> .ok ({F with aliases:=F.aliases++r.1},r.2):=by
 intro n
 induction n with
 | zero=>intro F rows; simp [iF,group]
 | succ n E=>
   intro F rows;cases rows with
   | nil=>simp [iF,group]
   | cons q rows=>
     obtain ⟨ln,row⟩:=q;simp only [iF,group];by_cases A:row.take [eX].length≠[eX]
     · rw [if_pos A,if_pos A]
     · rw [if_neg A,if_neg A];have C:row.getD 0 []=eX:=by
        refine (AX ?_).1<|jM.1 A;rintro rfl; exact A<|by simp
       unfold jG;rw [if_neg (by rw [C]; decide),if_pos C];cases kX F.kind ln row with
       | error e=>rfl
       | ok x=>
         simp only;rw [E];cases group [eX] (kX F.kind) eof n rows with
         | error e=>rfl
         | ok r=>simp only [eS]; rfl
theorem XD {A h1:Tx} (hk:A≠fK) (G:A≠eX):∀ (n:Nat) (F:aU) (rows:List Rw),iF [A,h1] eof n F rows=match group [A,h1] (gd F.kind F.aliases<|iq F) eof n rows with | .error e=> .error e | .ok r=> .ok ({F with rules:=F.rules++r.1},r.2):=by
 intro n
 induction n with
 | zero=>intro F rows; simp [iF,group]
 | succ n I=>
   intro F rows;cases rows with
   | nil=>simp [iF,group]
   | cons q rows=>
     obtain ⟨ln,row⟩:=q;simp only [iF,group];by_cases C:row.take [A,h1].length≠[A,h1]
     · rw [if_pos C,if_pos C]
     · rw [if_neg C,if_neg C];have E:row.getD 0 []=A:=(AY.1<|jM.1 C).2.1;unfold jG;rw [if_neg (by rw [E]; exact hk),if_neg (by rw [E]; exact G)];cases gd F.kind F.aliases (iq F) ln row with
       | error e=>rfl
       | ok x=>
         simp only;rw [I];show (match group [A,h1] (gd F.kind F.aliases<|iq F) eof n rows with | .error e=>_ | .ok r=>_)=_;cases group [A,h1] (gd F.kind F.aliases<|iq F) eof n rows with
         | error e=>rfl
         | ok r=>simp only [eS]; rfl
end
section
variable {hd:List Tx} {eof n ln:Nat} {F:aU} {row:List Tx} {rows:List Rw} {T:Except (Nat×Nat) (aU×List Rw)}
theorem Xz (h:iF hd eof n F []=T) (hn:0 < n):T= .error (eof,116):=by
 obtain ⟨m,rfl⟩:∃ m,n=m+1:=⟨n - 1,ab⟩
 exact h.symm
theorem DX (h:iF hd eof n F ((ln,row)::rows)=T) (hn:0 < n) (A:row.take hd.length≠hd):T= .error (ln,116):=by
 obtain ⟨m,rfl⟩:∃ m,n=m+1:=⟨n - 1,ab⟩
 rw [← h,iF,if_pos A]
theorem Xx {e:Nat} (h:iF hd eof n F ((ln,row)::rows)=T) (hn:0 < n) (A:row.take hd.length=hd) (he:jG F ln row= .error e):T= .error (ln,e):=by
 obtain ⟨m,rfl⟩:∃ m,n=m+1:=⟨n - 1,ab⟩
 rw [← h,iF,if_neg (fun h2=>h2 A),he]
theorem XA {F':aU} (h:iF hd eof n F ((ln,row)::rows)=T) (hn:0 < n) (A:row.take hd.length=hd) (he:jG F ln row= .ok F'):iF hd eof (n - 1) F' rows=T:=by
 obtain ⟨m,rfl⟩:∃ m,n=m+1:=⟨n - 1,ab⟩
 rw [← h,iF,if_neg (fun h2=>h2 A),he]; rfl
theorem Xy (h:iF hd eof 0 F rows=T):T= .ok (F,rows):=h.symm
end
def k4 (head:List Tx):List Tx:=if head.length=4 then [head.getD 0 [],head.getD 1 []] else [head.getD 0 []]
theorem Lx {head:List Tx} (h:head.length≠4):k4 head= [head.getD 0 []]:=if_neg h
theorem Ly {head:List Tx} (h:head.length=4):k4 head= [head.getD 0 [],head.getD 1 []]:=if_pos h
theorem Ye {head row:List Tx} (h:row.getD 0 []≠head.getD 0 []):row.take (k4 head).length≠k4 head:=by
 unfold k4;split
 · exact fun h2=>h (AY.1 h2).2.1
 · intro h2;cases row with
   | nil=>simp at h2
   | cons a l=>exact h<|(AX<|by simp).1 h2
theorem LA {head row:List Tx} (h4:head.length=4) (h:row.length < 2∨row.getD 1 []≠head.getD 1 []):row.take (k4 head).length≠k4 head:=by
 rw [Ly h4];intro h2;have :=AY.1 h2;rcases h with h | h
 · omega
 · exact h this.2.2
theorem LB {head row:List Tx} (A:row.getD 0 []=head.getD 0 []) (C:row≠[]) (h1:head.length=4→2≤row.length∧row.getD 1 []=head.getD 1 []):row.take (k4 head).length=k4 head:=by
 unfold k4;split
 · rename_i h4; exact AY.2 ⟨(h1 h4).1,A,(h1 h4).2⟩
 · exact (AX C).2 A
def q8 (k:Tx):Int:=if k∈ez then (ez.idxOf k:Nat) else -1
theorem vo {k:Tx} :(0≤q8 k)↔k∈ez:=by
 unfold q8; split
 · rename_i h; exact ⟨fun _=>h,fun _=>by omega⟩
 · rename_i h; exact ⟨fun h2=>by omega,fun h2=>absurd h2 h⟩
end Go.Hb
end
namespace Go.Hb
def pN (ps:List Tx) (w:Tx):Bool:=decide (ps.length≤w.length) && (gX ps.length).all fun i=>c8 (ps.getD i [])<|w.getD i 0
def rV (ps:List Tx) (w:Tx):Bool:=decide (ps.length≤w.length) && pN ps (w.drop<|w.length - ps.length)
noncomputable def ik (r:c7) (w:Tx):Bool:=
 decide ((dz r.cond).2=0∧r.strip.length < w.length) &&
  (if r.kind=2 then decide (w.drop (w.length - r.strip.length)=r.strip) && rV (dz r.cond).1 w
   else if r.kind=1 then decide (w.take r.strip.length=r.strip) && pN (dz r.cond).1 w else false)
noncomputable def eH (r:c7) (w:Tx):Option Tx:=if ik r w=true then some (if r.kind=2 then w.take (w.length - r.strip.length)++r.add else r.add++w.drop r.strip.length) else none
def dR:c7:=⟨0,0,false,[],[],[],[],0⟩
def bj (F:aU) (fs:List Nat) (kind:Nat):List Nat:=(gX F.rules.length).filter fun i=>decide ((F.rules.getD i dR).kind=kind∧(F.rules.getD i dR).flag∈fs)
def flagsOf (xs:List bC) (e:Int):List Nat:=if 0≤e∧e < xs.length then (xs.getD e.toNat ([],[])).2 else []
def cw (F:aU) (r:Int):List Nat:=if 0≤r∧r < F.rules.length then (F.rules.getD r.toNat dR).next else []
def tw (F:aU) (xs:List bC) (e:Int) (k:Nat):Bool:=decide (F.sp.getD k 0≠0∧F.sp.getD k 0∈flagsOf xs e)
def pw (F:aU) (r:Int):Bool:=decide (0≤r∧r < F.rules.length) && !decide (F.sp.getD 0 0≠0∧F.sp.getD 0 0∈cw F r)
structure bK where
 e7:Tx
 eM:Nat
 fst:Int
 snd:Int
 pre:Int
def mg (F:aU) (n:Int):Bool:=decide (n= -1) || (F.rules.getD n.toNat dR).eI
def fD (F:aU) (xs:List bC) (e:Nat) (f s p:Int):Bool:=
 if f= -1 then decide (p≠ -1) || !tw F xs e 0
 else if pw F (if s= -1 then f else s)=false then false
 else decide (p= -1) || (mg F f && mg F s && mg F p)
def oo (F:aU) (xs:List bC) (e:Nat) (word:Tx) (f s:Int):List bK:=if fD F xs e f s (-1)=true then [⟨word,e,f,s,-1⟩] else []
noncomputable def nu (F:aU) (xs:List bC) (e:Nat) (word:Tx) (f s:Int) (p:Nat):Option bK:=if fD F xs e f s p=true then (eH (F.rules.getD p dR) word).map (fun v=>(⟨v,e,f,s,(p:Int)⟩:bK)) else none
noncomputable def iy (F:aU) (xs:List bC) (e:Nat) (word:Tx) (f s:Int):List bK:=oo F xs e word f s++(bj F (flagsOf xs e) 1).filterMap (nu F xs e word f s)
noncomputable def nO (F:aU) (xs:List bC) (e:Nat) (w:Tx) (s:Int) (z:Nat):List bK:=match eH (F.rules.getD z dR) w with
 | none=> []
 | some v=>iy F xs e v s z
noncomputable def lX (F:aU) (xs:List bC) (e:Nat) (s:Nat):List bK:=match eH (F.rules.getD s dR) (xs.getD e ([],[])).1 with
 | none=> []
 | some w=>iy F xs e w s (-1)++(bj F (cw F s) 2).flatMap (nO F xs e w s)
noncomputable def j0 (F:aU) (xs:List bC) (e:Nat):List bK:=
 iy F xs e (xs.getD e ([],[])).1 (-1) (-1)++(bj F (flagsOf xs e) 2).flatMap (lX F xs e)
def ki (q:c7):Prop :=q.strip.length≤32∧q.add.length≤32∧q.cond.length≤4800
structure qI (F:aU):Prop where
 part:∀ (i:Nat) r,F.rules[i]? =some r→∃ c∈F.bE,c.first≤i∧i < c.first+c.count∧r.flag=c.flag∧r.kind=c.kind
 wH:∀ c∈F.bE,c.first+c.count≤F.rules.length∧∀ i,c.first≤i→i < c.first+c.count→∃ r,F.rules[i]? =some r∧r.flag=c.flag∧r.kind=c.kind
 uniq:(F.bE.map (·.flag)).Nodup
theorem Ll {α:Type} {hd:List Tx} {rd:Nat→List Tx→Except Nat α} {eof:Nat} :∀ (n:Nat) (rows:List Rw) (r:List α×List Rw),group hd rd eof n rows= .ok r→∀ x∈r.1,∃ ln row,rd ln row= .ok x:=by
 intro n
 induction n with
 | zero=>intro rows r h; simp only [group,tO] at h; subst h; intro x A; cases A
 | succ n C=>
   intro rows r h;cases rows with
   | nil=>simp [group] at h
   | cons q rows=>
     obtain ⟨ln,row⟩:=q;simp only [group] at h;split at h
     · cases h
     · cases hr:rd ln row with
       | error e=>rw [hr] at h; cases h
       | ok y=>
         rw [hr] at h;simp only at h;cases hg:group hd rd eof n rows with
         | error e=>rw [hg] at h; cases h
         | ok E=>
           rw [hg] at h;simp only [tO] at h;subst h;intro x A;rcases fG.1 A with A | A
           · exact ⟨ln,row,by rw [A]; exact hr⟩
           · exact C rows E hg x A
theorem LF {eof ln:Nat} {F F':aU} {hs:List Tx} {rows rows':List Rw} {row:List Tx} (A:cH eof F hs rows ln row= .ok (F',rows')):
 (F'.aliases=F.aliases∧F'.bE=F.bE∧F'.rules=F.rules)∨
 (F'.bE=F.bE∧F'.rules=F.rules∧∃ l,F'.aliases=F.aliases++l∧∀ x∈l,∃ kd s,lz kd s= .ok x)∨
 (F'.aliases=F.aliases∧∃ c l,F'.bE=F.bE++ [c]∧F'.rules=F.rules++l∧c.first=F.rules.length∧c.count=l.length∧eV F c.flag=false∧∀ x∈l,∃ ln row,gd F.kind F.aliases c ln row= .ok x):=by
 unfold cH at A;split at A
 · unfold kr at A; split at A <;> cases A; exact .inl ⟨rfl,rfl,rfl⟩
 split at A
 · unfold kM at A;split at A
   · cases A
   · split at A <;> cases A; exact .inl ⟨rfl,rfl,rfl⟩
 split at A
 · unfold mU at A; split at A <;> cases A; exact .inl ⟨rfl,rfl,rfl⟩
 split at A
 · unfold mZ at A; split at A <;> cases A; exact .inl ⟨rfl,rfl,rfl⟩
 split at A
 · unfold k9 at A;split at A
   · cases A
   · split at A <;> cases A; exact .inl ⟨rfl,rfl,rfl⟩
 split at A
 · unfold kq at A;split at A
   · cases A
   · split at A <;> cases A; exact .inl ⟨rfl,rfl,rfl⟩
 split at A
 · unfold j9 at A;split at A
   · cases A
   · split at A
     · cases A
     · split at A
       · cases A
       · rename_i r E;cases A;refine .inr<|.inl ⟨aa,aa,r.1,aa,fun x A=> ?_⟩;obtain ⟨ln,row,h⟩:=Ll _ _ _ E x A;unfold kX at h;split at h
         · cases h
         · exact ⟨_,_,h⟩
 · unfold ic at A;split at A
   · cases A
   · rename_i x C;split at A
     · cases A
     · split at A
       · cases A
       · split at A
         · cases A
         · split at A
           · cases A
           · rename_i r E;cases A;refine .inr<|.inr ⟨aa,_,r.1,aa,aa,aa,(xu _ _ _ E).2.1.symm,?_,fun x A=>Ll _ _ _ E x A⟩;unfold im at C;split at C
             · cases C
             · split at C
               · cases C
               · rename_i h; cases C; simpa using h
theorem BV {Q:aU→Prop} (C:Q iR) (G:∀ (eof ln:Nat) (F F':aU) (hs:List Tx) (rows rows':List Rw) (row:List Tx),Q F→cH eof F hs rows ln row= .ok (F',rows')→Q F') {s:Tx} {F:aU} (h:fQ s= .ok F):Q F:=by
 unfold fQ at h;split at h
 · cases h
 · split at h
   · cases h
   · rename_i f E;split at h
     · cases h
     · cases h;have key:∀ (k:Nat) (F F':aU) (hs:List Tx) (rows:List Rw) (eof:Nat),Q F→ir eof k F hs rows= .ok F'→Q F':=by
        intro k
        induction k with
        | zero=>intro F F' hs rows eof h A; rw [ir] at A; split at A <;> cases A; exact h
        | succ k J=>
          intro F F' hs rows eof h A;cases rows with
          | nil=>simp only [ir,tO] at A; exact A ▸ h
          | cons q rows=>
            rw [ir] at A;split at A
            · cases A
            · split at A
              · cases A
              · split at A
                · cases A
                · split at A
                  · cases A
                  · rename_i r I;exact J _ _ _ _ _ (G _ _ _ _ _ _ _ _ h I) A
       exact key _ _ _ _ _ _ C E
def lP (l:List Nat):Prop :=l.Pairwise (· < ·)∧0∉l
theorem Xe {kind:Nat} {s:Tx} (A:(eu kind s).2=0):lP (eu kind s).1:=by
 unfold eu at A ⊢;by_cases h1:s= []
 · rw [if_pos h1] at A; cases A
 · rw [if_neg h1] at A ⊢;by_cases h2:∃ x∈dV kind s,eW kind x=0
   · rw [if_pos h2] at A; cases A
   · rw [if_neg h2] at A ⊢;by_cases h3:64 < (dV kind s).length
     · rw [if_pos h3] at A; cases A
     · rw [if_neg h3];refine ⟨EL _,fun h4=> ?_⟩;rw [EK,jn] at h4;exact h2 h4
theorem KW {kind:Nat} {s:Tx} {l:List Nat} (h:lz kind s= .ok l):lP l:=by
 unfold lz at h;split at h
 · cases h
 · rename_i A;cases h;exact Xe<|jM.1 A
def ui (F:aU):Prop :=(∀ l∈F.aliases,lP l)∧∀ q∈F.rules,lP q.next∧ki q
theorem Ki {w:Tx} (h:¬ij w≠0):w.length≤32:=by
 unfold ij at h;split at h
 · exact absurd aB h
 · split at h
   · exact absurd aB h
   · omega
theorem aaT {b:Bool} {fd p:Tx} (h:eO b fd= .ok p):p.length≤32:=by
 unfold eO at h;split at h
 · cases h; exact hZ _
 · split at h
   · cases h
   · split at h
     · cases h
     · split at h
       · cases h
       · rename_i A; cases h; exact Ki A
theorem QN {r:l9} {p:Tx} (h:j8 r= .ok p):p.length≤32:=by
 unfold j8 at h;split at h
 · cases h
 · split at h
   · cases h; exact hZ _
   · split at h
     · cases h
     · rename_i A; cases h; exact Ki A
theorem I1 (s:Tx):(dz s).1.length≤16:=by
 unfold dz;split
 · simp
 · split
   · simp
   · split
     · simp
     · split
       · simp
       · simp only; omega
theorem abY:∀ {ps:List Tx},ps.length≤16→(mV ps).length≤4800:=by
 have key:∀ ps:List Tx,(ps.flatMap fun t=>iH<|c8 t).length≤ps.length*300:=by
  intro ps
  induction ps with
  | nil=>exact hZ _
  | cons t ps A=>
    have :=Ft<|c8 t;rw [ku,bL,cV]; omega
 intro ps h;unfold mV;split
 · simp
 · have :=key ps; omega
theorem UM {row:List Tx} {c:Tx} (h:lx row= .ok c):c.length≤4800:=by
 unfold lx at h;split at h
 · split at h
   · cases h
   · split at h
     · cases h
     · cases h; exact abY<|I1 _
 · cases h; simp
theorem xr:lP []:=⟨.nil,vS⟩
theorem Kt {kind:Nat} {al:List (List Nat)} {s:Tx} {l:List Nat} (A:∀ l∈al,lP l) (h:gA kind al s= .ok l):lP l:=by
 unfold gA at h;split at h
 · exact KW h
 · split at h
   · cases h
   · split at h
     · cases h
     · cases h;rename_i n _ _;rw [cX];cases hg:al[n - 1]? with
       | none=>exact xr
       | some x=>exact A x<|gC hg
theorem Fo {kind ln:Nat} {al:List (List Nat)} {c:dy} {row:List Tx} {q:c7} (E:∀ l∈al,lP l) (h:gd kind al c ln row= .ok q):(lP q.next∧ki q)∧q.flag=c.flag∧q.kind=c.kind∧q.eI=c.eI:=by
 unfold gd at h;split at h
 · cases h
 · split at h
   · cases h
   · rename_i hp;split at h
     · cases h
     · rename_i C;split at h
       · cases h
       · rename_i nx A;split at h
         · cases h
         · rename_i G;cases h;refine ⟨⟨?_,aaT hp,QN C,UM G⟩,aa,aa,aa⟩;unfold lD at A;split at A
           · split at A
             · cases A
             · exact Kt E A
           · cases A; exact xr
theorem Dn {cs:List dy} {x:Nat} (h:(ej cs x).isSome=false):∀ c∈cs,c.flag≠x:=fun c A C=>by
 unfold ej at h;have h1:cs.find? (fun c=>decide (c.flag=x))=none:=by
  cases h2:cs.find? (fun c=>decide (c.flag=x)) with
  | none=>rfl
  | some y=>rw [h2] at h; cases h
 have :=List.find?_eq_none.1 h1 c A;simp [C] at this
theorem BU {s:Tx} {F:aU} (h:fQ s= .ok F):ui F∧qI F:=by
 refine BV (Q:=fun F=>ui F∧qI F) ⟨⟨fun l Z=>(by cases Z),fun l Z=>by cases Z⟩,⟨fun i r h=>(by cases h),fun c h=>(by cases h),.nil⟩⟩ ?_ h;rintro eof ln F F' hs rows rows' row ⟨E,G⟩ A;refine ⟨?_,?_⟩
 · rcases LF A with ⟨h1,_,h3⟩ | ⟨_,h2,l,h3,h4⟩ | ⟨h1,c,l,_,h3,_,_,_,h4⟩
   · exact ⟨h1 ▸ E.1,h3 ▸ E.2⟩
   · refine ⟨fun x A=> ?_,h2 ▸ E.2⟩;rw [h3] at A;rcases jm.1 A with A | A
     · exact E.1 x A
     · obtain ⟨_,_,h⟩:=h4 x A; exact KW h
   · refine ⟨h1 ▸ E.1,fun x A=> ?_⟩;rw [h3] at A;rcases jm.1 A with A | A
     · exact E.2 x A
     · obtain ⟨_,_,h⟩:=h4 x A; exact (Fo E.1 h).1
 · rcases LF A with ⟨_,h2,h3⟩ | ⟨h2,h3,_⟩ | ⟨_,c,l,h2,h3,h4,h5,Y,ag⟩
   · exact ⟨by rw [h2,h3]; exact G.part,by rw [h2,h3]; exact G.wH,by rw [h2]; exact G.uniq⟩
   · exact ⟨by rw [h2,h3]; exact G.part,by rw [h2,h3]; exact G.wH,by rw [h2]; exact G.uniq⟩
   · have ac:∀ i,F.rules.length≤i→i < F.rules.length+l.length→∃ r,F'.rules[i]? =some r∧r.flag=c.flag∧r.kind=c.kind:=fun i I O=>by
      have C:i - F.rules.length < l.length:=ab;refine ⟨l[i - F.rules.length],?_,?_⟩
      · rw [h3,nV I,cx C]
      · obtain ⟨_,_,h⟩:=ag _ (List.getElem_mem C); exact ⟨(Fo E.1 h).2.1,(Fo E.1 h).2.2.1⟩
     refine ⟨fun i r I=> ?_,fun d hd=> ?_,?_⟩
     · by_cases O:i < F.rules.length
       · rw [h3,ng O] at I;obtain ⟨d,hd,C⟩:=G.part i r I;exact ⟨d,by rw [h2]; exact BI _ hd,C⟩
       · have C:i < F.rules.length+l.length:=by
          have :=(fL.1 I).1; rw [h3,bL] at this; exact this
         obtain ⟨aj,J,V⟩:=ac i ab C;rw [I] at J; cases J;exact ⟨c,by rw [h2]; exact yB _ (iK.2 aa),ab,ab,V⟩
     · rw [h2] at hd;rcases jm.1 hd with hd | hd
       · obtain ⟨I,O⟩:=G.wH d hd;refine ⟨by rw [h3,bL]; omega,fun i C J=> ?_⟩;obtain ⟨r,V,ae⟩:=O i C J;exact ⟨r,by rw [h3,ng ab]; exact V,ae⟩
       · obtain rfl :=iK.1 hd;refine ⟨by rw [h3,bL]; omega,fun i C J=>ac i ab ab⟩
     · rw [h2,gW,yC];refine ⟨G.uniq,by simp,fun a ah b ai=> ?_⟩;obtain ⟨d,hd,rfl⟩:=jn.1 ah;obtain rfl :b=c.flag:=by simpa using ai
       unfold eV at Y;rw [oP] at Y;exact Dn Y.2 d hd
theorem V1 {F:aU} {row:List Tx} {x:bC} (A:ui F) (h:gl F row= .ok x):lP x.2:=by
 unfold gl at h;split at h
 · cases h
 · split at h
   · cases h
   · split at h
     · cases h
     · split at h
       · cases h
       · split at h
         · cases h; exact xr
         · split at h
           · cases h
           · rename_i set hs;split at h
             · cases h; exact Kt A.1 hs
             · cases h
theorem Wb {F:aU} (E:ui F) {eof:Nat} :∀ {n:Nat} {rows:List Rw} {r:List bC},fA F eof n rows= .ok r→∀ x∈r,lP x.2:=by
 intro n
 induction n with
 | zero=>
   intro rows r h;cases rows with
   | nil=>rw [fA] at h; cases h; intro x A; cases A
   | cons q rows=>rw [fA] at h; cases h
 | succ n G=>
   intro rows r h;cases rows with
   | nil=>rw [fA] at h; cases h
   | cons q rows=>
     rw [fA] at h;split at h
     · cases h
     · rename_i x A;split at h
       · cases h
       · rename_i h2;cases h;intro y C;rcases fG.1 C with rfl | C
         · exact V1 E A
         · exact G h2 y C
theorem VK {F:aU} (A:ui F) {t:Tx} {xs:List bC} (h:fN F t= .ok xs):∀ x∈xs,lP x.2:=by
 unfold fN at h;split at h
 · cases h
 · split at h
   · cases h
   · split at h
     · cases h
     · split at h
       · cases h
       · exact Wb A h
theorem V6 {F:aU} {row:List Tx} {x:bC} (h:gl F row= .ok x):1≤x.1.length:=by
 unfold gl at h;split at h
 · cases h
 · split at h
   · cases h
   · split at h
     · cases h
     · rename_i C;have h1:1≤(bF<|row.getD 0 []).1.length:=by
        rcases Nat.eq_zero_or_pos (bF<|row.getD 0 []).1.length with A | A
        · exact absurd (Or.inr<|fR A) C
        · exact A
       split at h
       · cases h
       · split at h
         · cases h; exact h1
         · split at h
           · cases h
           · split at h
             · cases h; exact h1
             · cases h
theorem We {F:aU} {eof:Nat} :∀ {n:Nat} {rows:List Rw} {r:List bC},fA F eof n rows= .ok r→∀ x∈r,1≤x.1.length:=by
 intro n
 induction n with
 | zero=>
   intro rows r h;cases rows with
   | nil=>rw [fA] at h; cases h; intro x A; cases A
   | cons q rows=>rw [fA] at h; cases h
 | succ n E=>
   intro rows r h;cases rows with
   | nil=>rw [fA] at h; cases h
   | cons q rows=>
     rw [fA] at h;split at h
     · cases h
     · rename_i x A;split at h
       · cases h
       · rename_i h2;cases h;intro y C;rcases fG.1 C with rfl | C
         · exact V6 A
         · exact E h2 y C
theorem VN {F:aU} {t:Tx} {xs:List bC} (h:fN F t= .ok xs):∀ x∈xs,1≤x.1.length:=by
 unfold fN at h;split at h
 · cases h
 · split at h
   · cases h
   · split at h
     · cases h
     · split at h
       · cases h
       · exact We h
theorem oE {F:aU} {fs:List Nat} {k i:Nat} :i∈bj F fs k↔i < F.rules.length∧(F.rules.getD i dR).kind=k∧(F.rules.getD i dR).flag∈fs:=by
 unfold bj; simp
theorem EC (F:aU) (fs:List Nat) (k:Nat):(bj F fs k).Pairwise (· < ·):=ad6 _ Qf
theorem vf (F:aU) (fs:List Nat) (k:Nat):(bj F fs k).length≤F.rules.length:=by
 unfold bj; have :=sS (fun i=>decide ((F.rules.getD i dR).kind=k∧(F.rules.getD i dR).flag∈fs)) (gX F.rules.length); simpa using this
def ig (F:aU) (k f:Nat):List Nat:=match ej F.bE f with
 | some c=>if c.kind=k then (gX c.count).map (c.first+ ·) else []
 | none=> []
theorem Kd {cs:List dy} {x:Nat} {c:dy} (h:ej cs x=some c):c∈cs∧c.flag=x:=⟨List.mem_of_find?_eq_some h,by simpa using List.find?_some h⟩
theorem WJ:∀ {cs:List dy},(cs.map (·.flag)).Nodup→∀ c∈cs,ej cs c.flag=some c:=by
 intro cs
 induction cs with
 | nil=>intro _ c h; cases h
 | cons d cs E=>
   intro h c A;rw [sT,BK] at h;unfold ej;rw [List.find?_cons];rcases fG.1 A with rfl | A
   · simp
   · have C:¬d.flag=c.flag:=fun h2=>h.1<|jn.2 ⟨c,A,h2.symm⟩;rw [decide_eq_false C];exact E h.2 c A
theorem Ak {F:aU} (A:qI F) {k f i:Nat} :i∈ig F k f↔i < F.rules.length∧(F.rules.getD i dR).kind=k∧(F.rules.getD i dR).flag=f:=by
 unfold ig;constructor
 · intro h;split at h
   · rename_i c C;split at h
     · rename_i hk;obtain ⟨j,O,rfl⟩:=jn.1 h;rw [pW] at O;have h1:=Kd C;obtain ⟨h2,h3⟩:=A.wH c h1.1;obtain ⟨r,h4,h5,E⟩:=h3 (c.first+j) ab ab;refine ⟨ab,?_⟩;rw [cX,h4];exact ⟨E.trans hk,h5.trans h1.2⟩
     · cases h
   · cases h
 · rintro ⟨h1,h2,h3⟩;have h4:F.rules[i]? =some (F.rules.getD i dR):=by rw [cX,cx h1]; rfl
   obtain ⟨c,C,h5,E,I,J⟩:=A.part i _ h4;have G:=WJ A.uniq c C;rw [← I,h3] at G;rw [G];simp only;rw [if_pos (J.symm.trans h2)];exact jn.2 ⟨i - c.first,pW.2 ab,ab⟩
theorem Up (F:aU) (k f:Nat):(ig F k f).Nodup:=by
 unfold ig;split
 · split
   · rw [List.Nodup,Qg];exact ad7 (fun h=>by omega) Qf
   · exact .nil
 · exact .nil
theorem MH {F:aU} (A:qI F) {k:Nat} :∀ {fs:List Nat},fs.Pairwise (· < ·)→(fs.flatMap<|ig F k).Nodup∧∀ i,i∈fs.flatMap (ig F k)↔i∈bj F fs k:=by
 intro fs h;refine ⟨?_,fun i=> ?_⟩
 · induction fs with
   | nil=>exact .nil
   | cons f fs O=>
     rw [List.pairwise_cons] at h;rw [ku,yC];refine ⟨Up F k f,O h.2,fun a E b C G=> ?_⟩;subst G;obtain ⟨g,J,C⟩:=rD.1 C;have h1:=(Ak A).1 E;have h2:=(Ak A).1 C;have :=h.1 g J;omega
 · rw [rD,oE];constructor
   · rintro ⟨f,I,hi⟩;have h1:=(Ak A).1 hi;exact ⟨h1.1,h1.2.1,h1.2.2 ▸ I⟩
   · rintro ⟨h1,h2,h3⟩;exact ⟨_,h3,(Ak A).2 ⟨h1,h2,aa⟩⟩
theorem aca {F:aU} (C:qI F) {fs:List Nat} (h:fs.Pairwise (· < ·)) (k:Nat):((fs.flatMap<|ig F k).map fun i:Nat=>(i:Int)).mergeSort (fun x y=>decide (x≤y))=(bj F fs k).map fun i:Nat=>(i:Int):=by
 obtain ⟨h1,h2⟩:=MH C (k:=k) h;have hn:=EC F fs k;have hp:=(List.mergeSort_perm ((fs.flatMap<|ig F k).map fun i:Nat=>(i:Int)) fun x y=>decide (x≤y)).trans<|((List.perm_ext_iff_of_nodup h1<|hn.imp fun h=>by omega).2 h2).map _;refine List.Perm.eq_of_pairwise (le:=fun x y:Int=>decide (x≤y)=true) ?_ (List.pairwise_mergeSort ?_ ?_ _) ?_ hp
 · intro a b _ _ h A; have :=of_decide_eq_true h; have :=of_decide_eq_true A; omega
 · intro a b c h A; have :=of_decide_eq_true h; have :=of_decide_eq_true A; exact decide_eq_true ab
 · intro a b; simp only [Bool.or_eq_true,decide_eq_true_eq]; omega
 · rw [Qg]; exact hn.imp fun h=>decide_eq_true ab
def jF (l:List bK):Nat:=(l.map fun d=>d.e7.length).sum
theorem HB (a b:List bK):jF (a++b)=jF a+jF b:=by unfold jF; rw [gW,List.sum_append]
theorem HC (d:bK):jF [d]=d.e7.length:=by simp [jF]
def kn (most limit:Int) (a:List bK):Bool:=decide (most≤(a.length:Int)∨limit < (jF a:Nat))
def tx (most limit:Int) (a:List bK) (d:bK):List bK:=if kn most limit a=true then a else a++ [d]
def oC (most limit:Int) (a L:List bK):List bK:=L.foldl (tx most limit) a
theorem Y0 (most limit:Int) (a L M:List bK):oC most limit a (L++M)=oC most limit (oC most limit a L) M:=List.foldl_append
theorem Ad {most limit:Int} {a:List bK} (h:kn most limit a=true):∀ L,oC most limit a L=a:=by
 intro L
 induction L with
 | nil=>rfl
 | cons d L A=>rw [oC,sQ,tx,if_pos h]; exact A
theorem Y1 {most limit:Int} (c:Nat) (Y:most*c≤limit) (hm:0≤most):∀ (L a:List bK),(∀ d∈L,d.e7.length≤c)→a.length≤most→jF a≤a.length*c→oC most limit a L=a++L.take (most.toNat - a.length):=by
 intro L
 induction L with
 | nil=>intro a _ _ _; simp [oC]
 | cons d L G=>
   intro a A I J;by_cases h:(a.length:Int)=most
   · rw [Ad (decide_eq_true<|.inl ab),show most.toNat - a.length=0 by omega]; simp
   · have O:a.length*c≤(most.toNat)*c:=qD c ab;have V:((most.toNat*c:Nat):Int)=most*c:=by rw [Int.natCast_mul,Int.toNat_of_nonneg hm]
     have C:kn most limit a=false :=decide_eq_false fun h2=>by rcases h2 with h2 | h2 <;> omega
     rw [oC,sQ,tx,if_neg (by rw [C]; exact ep)];have :=G (a++ [d]) (fun x E=>A x<|nW _ E) (by rw [bL,fu]; omega) (by
      rw [HB,HC,bL,fu,Nat.add_mul];have :=A d (oS ..); omega)
     rw [oC] at this;rw [this,bL,fu,show most.toNat - a.length=(most.toNat - (a.length+1))+1 by omega,List.take_succ_cons,eS]; rfl
theorem Rb {r:c7} {w v:Tx} (h:eH r w=some v):r.strip.length < w.length∧v=(if r.kind=2 then w.take (w.length - r.strip.length)++r.add else r.add++w.drop r.strip.length):=by
 unfold eH at h;split at h
 · rename_i A;unfold ik at A;rw [jl,decide_eq_true_eq] at A;cases h;exact ⟨A.1.2,aa⟩
 · cases h
theorem s9 {r:c7} {w v:Tx} (A:r.add.length≤32) (h:eH r w=some v):1≤v.length∧v.length≤w.length+32:=by
 obtain ⟨h1,rfl⟩:=Rb h;split
 · rw [bL,dP]; omega
 · rw [bL,fS]; omega
theorem Fk {F:aU} (A:∀ q∈F.rules,ki q) (i:Nat):ki (F.rules.getD i dR):=by
 rw [cX];cases h:F.rules[i]? with
 | none=>exact ⟨hZ _,hZ _,hZ _⟩
 | some q=>exact A q<|gC h
theorem CR {F:aU} (A:∀ q∈F.rules,ki q) {xs:List bC} {e:Nat} {word:Tx} {f s:Int} (h1:1≤word.length):∀ d∈iy F xs e word f s,1≤d.e7.length∧d.e7.length≤word.length+32∧d.eM=e∧d.fst=f∧d.snd=s:=by
 intro d hd;unfold iy at hd;rcases jm.1 hd with hd | hd
 · unfold oo at hd;split at hd
   · obtain rfl :=iK.1 hd;exact ⟨h1,Nat.le_add_right _ _,aa,aa,aa⟩
   · cases hd
 · obtain ⟨p,_,hp⟩:=List.mem_filterMap.1 hd;unfold nu at hp;split at hp
   · obtain ⟨v,C,rfl⟩:=nY.1 hp;have :=s9 (Fk A p).2.1 C;exact ⟨this.1,this.2,aa,aa,aa⟩
   · cases hp
theorem VD {F:aU} (A:∀ q∈F.rules,ki q) {xs:List bC} {e:Nat} (h1:1≤(xs.getD e ([],[])).1.length):∀ d∈j0 F xs e,1≤d.e7.length∧d.e7.length≤(xs.getD e ([],[])).1.length +96∧d.eM=e:=by
 intro d hd;unfold j0 at hd;rcases jm.1 hd with hd | hd
 · have :=CR A h1 d hd; exact ⟨this.1,ab,this.2.2.1⟩
 · obtain ⟨s,_,hd⟩:=rD.1 hd;unfold lX at hd;split at hd
   · cases hd
   · rename_i w hw;have C:=s9 (Fk A s).2.1 hw;rcases jm.1 hd with hd | hd
     · have :=CR A C.1 d hd; exact ⟨this.1,ab,this.2.2.1⟩
     · obtain ⟨z,_,hd⟩:=rD.1 hd;unfold nO at hd;split at hd
       · cases hd
       · rename_i v G;have E:=s9 (Fk A z).2.1 G;have :=CR A E.1 d hd; exact ⟨this.1,ab,this.2.2.1⟩
def nL (n:Nat):List Int:=(-1)::(gX n).map fun i:Nat=>(i:Int)
noncomputable def gU (F:aU) (L:List Nat) (n:Int) (w:Tx):Option Tx:=if n= -1 then some w else if n.toNat∈L then eH (F.rules.getD n.toNat dR) w else none
noncomputable def gZ (F:aU) (xs:List bC) (e:Nat) (f s p:Int):Option Tx:=
 if f= -1∧s≠ -1 then none
 else (gU F (bj F (flagsOf xs e) 2) f (xs.getD e ([],[])).1).bind fun w=>(gU F (bj F (cw F f) 2) s w).bind fun v=>(gU F (bj F (flagsOf xs e) 1) p v).bind fun u=>
  if fD F xs e f s p=true then some u else none
noncomputable def ti (F:aU) (xs:List bC) (e:Nat) (f s:Int):List bK:=(nL F.rules.length).filterMap fun p=>(gZ F xs e f s p).map fun u=>(⟨u,e,f,s,p⟩:bK)
noncomputable def wU (F:aU) (xs:List bC) (e:Nat) (f:Int):List bK:=(nL F.rules.length).flatMap<|ti F xs e f
theorem WD {α β:Type} {l:List α} {f:α→Option β} (h:∀ x∈l,f x=none):l.filterMap f= []:=by
 induction l with
 | nil=>rfl
 | cons x l C=>rw [BD,h x (oS ..)]; exact C fun y A=>h y<|nW _ A
theorem Ds {α β:Type} {l:List α} {f:α→List β} (h:∀ x∈l,f x= []):l.flatMap f= []:=by
 induction l with
 | nil=>rfl
 | cons x l C=>rw [ku,h x (oS ..),qA]; exact C fun y A=>h y<|nW _ A
theorem Kb {α β:Type} (q:α→Bool) (f:α→List β):∀ l:List α,(l.filter q).flatMap f=l.flatMap fun x=>if q x=true then f x else []:=by
 intro l
 induction l with
 | nil=>rfl
 | cons x l A=>
   by_cases h:q x=true
   · rw [List.filter_cons_of_pos h,ku,ku,if_pos h,A]
   · rw [List.filter_cons_of_neg h,ku,if_neg h,A]; rfl
theorem Kx {α β:Type} {f g:α→List β} :∀ {l:List α},(∀ x∈l,f x=g x)→l.flatMap f=l.flatMap g:=by
 intro l h
 induction l with
 | nil=>rfl
 | cons x l C=>rw [ku,ku,h x (oS ..),C fun y A=>h y (nW _ A)]
theorem WC {α β:Type} {f g:α→Option β} :∀ {l:List α},(∀ x∈l,f x=g x)→l.filterMap f=l.filterMap g:=by
 intro l h
 induction l with
 | nil=>rfl
 | cons x l C=>rw [BD,BD,h x (oS ..),C fun y A=>h y (nW _ A)]
theorem EB {F:aU} {fs:List Nat} {k i:Nat} (h:i < F.rules.length):decide ((F.rules.getD i dR).kind=k∧(F.rules.getD i dR).flag∈fs)=decide (i∈bj F fs k):=by
 rw [decide_eq_decide,oE]; exact ⟨fun h2=>⟨h,h2⟩,fun h2=>h2.2⟩
theorem tG {F:aU} {L:List Nat} (i:Nat) (w:Tx):gU F L (i:Int) w=if i∈L then eH (F.rules.getD i dR) w else none:=by
 unfold gU; rw [if_neg ab,Int.toNat_natCast]
theorem x5 {F:aU} {L:List Nat} (w:Tx):gU F L (-1) w=some w:=by unfold gU; rw [if_pos rfl]
theorem Dd {F:aU} {xs:List bC} {e:Nat} {f s:Int} {v:Tx} (h:∀ p,gZ F xs e f s p=(gU F (bj F (flagsOf xs e) 1) p v).bind fun u=>if fD F xs e f s p=true then some u else none):ti F xs e f s=iy F xs e v f s:=by
 unfold ti nL iy;rw [BD,List.filterMap_map];have h1:(gZ F xs e f s<|-1).map (fun u=>(⟨u,e,f,s,-1⟩:bK))=if fD F xs e f s (-1)=true then some ⟨v,e,f,s,-1⟩ else none:=by
  rw [h,x5,rH]; split <;> rfl
 have h2:(gX F.rules.length).filterMap ((fun p=>(gZ F xs e f s p).map fun u=>(⟨u,e,f,s,p⟩:bK))∘fun i:Nat=>(i:Int))=(bj F (flagsOf xs e) 1).filterMap (nu F xs e v f s):=by
  have h3:bj F (flagsOf xs e) 1=(gX F.rules.length).filter fun i=>decide ((F.rules.getD i dR).kind=1∧(F.rules.getD i dR).flag∈flagsOf xs e):=rfl;rw [h3,List.filterMap_filter];refine WC fun i hi=> ?_;have hi:i < F.rules.length:=by simpa using hi
  rw [EB hi];show (gZ F xs e f s (i:Int)).map _=_;rw [h,tG];unfold nu;by_cases h4:i∈bj F (flagsOf xs e) 1
  · rw [if_pos h4,if_pos (decide_eq_true h4)];cases eH (F.rules.getD i dR) v with
    | none=>simp
    | some u=>simp only [rH]; split <;> rfl
  · rw [if_neg h4,if_neg (by rw [decide_eq_false h4]; exact ep)]; rfl
 rw [h1,h2];unfold oo;split
 · rename_i h3; split at h3
   · cases h3
   · rename_i h4; rw [if_neg h4]; rfl
 · rename_i x h3; split at h3
   · rename_i h4; cases h3; rw [if_pos h4]; rfl
   · cases h3
theorem wT {F:aU} {xs:List bC} {e:Nat} {f s:Int} (h:∀ p,gZ F xs e f s p=none):ti F xs e f s= []:=WD fun p _=>by rw [h p]; rfl
theorem C4 (F:aU) (xs:List bC) (e:Nat):j0 F xs e=(nL F.rules.length).flatMap (wU F xs e):=by
 unfold nL;rw [ku,P1];unfold j0;congr 1
 · unfold wU nL;rw [ku,Ds,eB,Dd (v:=(xs.getD e ([],[])).1)]
   · intro p; unfold gZ; rw [if_neg (fun h=>h.2 rfl),x5,rH,x5,rH]
   · intro s hs;obtain ⟨j,_,rfl⟩:=jn.1 hs;exact wT fun p=>by unfold gZ; rw [if_pos ⟨aa,ab⟩]
 · have h3:bj F (flagsOf xs e) 2=(gX F.rules.length).filter fun i=>decide ((F.rules.getD i dR).kind=2∧(F.rules.getD i dR).flag∈flagsOf xs e):=rfl;conv =>lhs; rw [h3]
   rw [Kb];refine Kx fun i hi=> ?_;have hi:i < F.rules.length:=by simpa using hi
   rw [EB hi];have hm:∀ s p,gZ F xs e (i:Int) s p=(gU F (bj F (flagsOf xs e) 2) (i:Int) (xs.getD e ([],[])).1).bind fun w=>(gU F (bj F (cw F (i:Int)) 2) s w).bind fun v=>(gU F (bj F (flagsOf xs e) 1) p v).bind fun u=>
    if fD F xs e (i:Int) s p=true then some u else none:=fun s p=>by unfold gZ; rw [if_neg (fun h=>by have :=h.1; omega)]
   by_cases h4:i∈bj F (flagsOf xs e) 2
   · rw [if_pos (decide_eq_true h4)];unfold lX;cases h5:eH (F.rules.getD i dR) (xs.getD e ([],[])).1 with
     | none=>
       have :∀ s p,gZ F xs e (i:Int) s p=none:=fun s p=>by rw [hm,tG,if_pos h4,h5]; rfl
       exact (Ds fun s _=>wT fun p=>this s p).symm
     | some w=>
       have C:∀ s p,gZ F xs e (i:Int) s p=(gU F (bj F (cw F (i:Int)) 2) s w).bind fun v=>(gU F (bj F (flagsOf xs e) 1) p v).bind fun u=>if fD F xs e (i:Int) s p=true then some u else none:=fun s p=>by rw [hm,tG,if_pos h4,h5]; rfl
       simp only;unfold wU nL;rw [ku,P1,Dd (v:=w) fun p=>by rw [C,x5]; rfl];congr 1;have G:bj F (cw F (i:Int)) 2=(gX F.rules.length).filter fun z=>decide ((F.rules.getD z dR).kind=2∧(F.rules.getD z dR).flag∈cw F (i:Int)):=rfl;conv =>lhs; rw [G]
       rw [Kb];refine Kx fun z E=> ?_;have E:z < F.rules.length:=by simpa using E
       rw [EB E];by_cases A:z∈bj F (cw F (i:Int)) 2
       · rw [if_pos (decide_eq_true A)];unfold nO;cases h8:eH (F.rules.getD z dR) w with
         | none=>exact (wT fun p=>by rw [C,tG,if_pos A,h8]; rfl).symm
         | some v=>exact (Dd (v:=v) fun p=>by rw [C,tG,if_pos A,h8]; rfl).symm
       · rw [if_neg (by rw [decide_eq_false A]; exact ep)];exact (wT fun p=>by rw [C,tG,if_neg A]; rfl).symm
   · rw [if_neg (by rw [decide_eq_false h4]; exact ep)];exact (Ds fun s _=>wT fun p=>by rw [hm,tG,if_neg h4]; rfl).symm
end Go.Hb
section
namespace Go.Hb
section
variable {B B':Nat} {fp fp' fp'':Nat→Prop} {w w' w'':World}
end
section
variable {F fp:Nat→Prop} {W W':World} {B:Nat}
end
section
variable {P:Program} {N:Fm} {ops:Array Oper} {Q:Exit→(Nat→Value)→World→Prop} {rest:List Oper} {σ:Nat→Value} {w:World} {d':Option Nat} {d:Nat} {op:Op} {ty:TypeId} {pos :String} {af:Array Edge} {v:Value}
end
section
variable {P:Program} {n:Nat} {F:List Nat} {σ:Nat→Value} {w:World} {fn:Func} {R:Value→World→Prop}
end
def Dl (P:Program) (s f:Nat):Option Nat:=
 match P.underlying s with
 | some (.struct fs)=>match fs[f]? with
   | some fd=>if dG P fd.type=some none then some fd.offset else none
   | none=>none
 | _=>none
theorem abL {P:Program} {t:Nat} (hu:dG P t=some none) (w:World):(isAgg t).run P w= .ok false w:=by
 unfold dG at hu;cases hd:P.underlying t with
 | none=>rw [hd] at hu; cases hu
 | some d=>
   rw [hd] at hu;cases d <;> first
    | (simp only [nY] at hu; obtain ⟨_,_,h⟩:=hu; cases h; done)
    | simp [isAgg,ee hd]
theorem JT {P:Program} {N:Fm} {σ:Nat→Value} {w:World} {dst:Option Nat} {ty:TypeId} {pos :String} {af:Array Edge} {g:Option (Nat×Bool)} {x:Operand} {s f n:Nat} {cs:Array Value} {v:Value} (A:Dl P s f=some n) (I:ev N σ x= .agg cs) (G:cs[n]? =some v):
 (execOp (ev N σ) ⟨dst,.field s x f,ty,pos,af,g⟩).run P w= .ok (.value v) w:=by
 unfold Dl at A;split at A
 · rename_i fs hu;split at A
   · rename_i fd E;split at A
     · rename_i C;cases A;simp [execOp,Pw,ee hu,E,I,asAgg,part,abL C,G]
     · cases A
   · cases A
 · cases A
section
variable {P:Program} {ops:Array Oper} {Q:Exit→Act→World→Prop} {S:World→Prop} {md:tU}
def OZ (P:Program) (md:tU) (ops:Array Oper) (Q:Exit→Act→World→Prop) (S:World→Prop):Nat→Array Bool→Act→World→Prop
 | 0,bw,a,w=>kP md ops bw= []∧Q .normal a w
 | fuel+1,bw,a,w=>
   (kP md ops bw= []→Q .normal a w)∧
   ∀ i∈kP md ops bw,wpOpIn ry 0 P ops Q i (fun A w'=>S w'∧OZ P md ops Q S fuel (bw.setIfInBounds i true) A w') a w
end
def wpy (P:Program) (N:Fm) (ops:Array Oper) (Q:Exit→(Nat→Value)→World→Prop) (S:World→Prop) (fuel:Nat) (bw:Array Bool) (σ:Nat→Value) (w:World):Prop :=
 OZ P .any ops (lift N Q) S fuel bw (act N σ) w
section
variable {P:Program} {N:Fm} {ops:Array Oper} {Q:Exit→(Nat→Value)→World→Prop} {σ:Nat→Value} {w:World} {d':Option Nat} {d:Nat} {op:Op} {ty:TypeId} {pos :String} {af:Array Edge} {v:Value}
variable {S:World→Prop} {fuel:Nat} {bw:Array Bool}
end
attribute [irreducible] wpy
end Go.Hb
end
namespace Go.Hb
theorem MU {b:UInt8} {m:Int} (h:48≤b.toNat∧b.toNat≤57) (hm:((b.toNat - 48:Nat):Int)≤m):fw [b] m= .ok (b.toNat - 48):=by
 have A:fi [b]=b.toNat - 48:=by simp [fi]
 have C:¬r9 [b]:=by rintro (h | ⟨h,_⟩) <;> simp at h
 have hd:C7 [b]:=fun i hi=>by
  have hi:i=0:=by simpa using hi
  subst hi;exact decide_eq_true h
 unfold fw;rw [EF C hd (by rw [A]; omega),A];rfl
theorem F4:eW 1 [65]=65:=by unfold eW; decide+kernel
theorem adE:im iR [65]= .ok 65:=by
 unfold im iD iR;simp only;rw [F4];simp [eV,ej]
theorem adF:lz 1 [65]= .ok [65]:=by
 have h1:dV 1 [65]= [[65]]:=by decide+kernel
 have h:eu 1 [65]=([65],0):=by
  unfold eu;rw [h1,if_neg (by simp),if_neg (by simp [F4]),if_neg (by simp),sT,List.map_nil,F4];decide+kernel
 unfold lz;rw [h]; rfl
end Go.Hb
section
namespace Go.Hb
section
variable {P:Program} {n:Nat} {Fx:List Nat} {σ:Nat→Value} {w:World} {fn:Func} {R:Value→World→Prop} {B:Exit→Act→World→Prop} {N:Fm}
variable {S:List Nat→(Nat→Value)→World→Prop}
end
theorem Mz (o:Nat):∀ (r:List Value) (m:Nat) (pre A:List Value),pre.length=o+m→r.length≤A.length→
 (r.zipIdx m).foldl (fun (cs:Array Value) (c,j)=>cs.setIfInBounds (o+j) c) (pre++A).toArray=(pre++r++A.drop r.length).toArray
 | [],m,pre,A,_,_=>by simp
 | c::r,m,pre,A,hp,hl=>by
   cases A with
   | nil=>simp at hl
   | cons z A=>
     rw [BM,sQ];have h1:(pre++z::A).toArray.setIfInBounds (o+m) c=((pre++ [c])++A).toArray:=by rw [← hp]; simp
     show List.foldl _ ((pre++z::A).toArray.setIfInBounds (o+m) c) _=_;rw [h1,Mz o r (m+1) (pre++ [c]) A (by simp; omega) (by simpa using hl)];simp
theorem Ka {size:Nat} :∀ (rest:List (List Value)) (m:Nat) (pre A:List Value),pre.length=m*size→A.length=rest.length*size→(∀ r∈rest,r.length=size)→
 nS (fun i=>some (i*size,size)) (pre++A).toArray ((rest.zipIdx m).map fun q=>(q.2,bV q.1.toArray))=some (pre++rest.flatten).toArray
 | [],m,pre,A,_,hz,_=>by
   obtain rfl :A= []:=fR<|by simpa using hz
   rfl
 | r::rest,m,pre,A,hp,hz,hr=>by
   have C:=hr r<|oS ..;have I:A.length=rest.length*size+size:=by rw [hz,cV,rG]
   rw [BM,sT];have E:(bV r.toArray).cells=r.toArray:=by simp [Value.cells]
   simp only [nS,E];rw [if_neg (by simp; omega)];have h1:=Mz (m*size) r 0 pre A ab ab;have h2:(r.toArray.zipIdx.foldl (fun (cs:Array Value) (c,j)=>cs.setIfInBounds (m*size+j) c) (pre++A).toArray)=(pre++r++A.drop r.length).toArray:=by
    rw [← h1,← Pb]; simp
   rw [h2,Ka rest (m+1) (pre++r) (A.drop r.length) (by rw [bL,hp,C,rG]) (by rw [fS]; omega) (fun x G=>hr x<|nW _ G)];simp
section
variable {P:Program} {N:Fm} {σ:Nat→Value} {w:World} {dst:Option Nat} {ty:TypeId} {pos :String} {af:Array Edge} {g:Option (Nat×Bool)} {K:(Nat→Value)→World→Prop}
theorem Rx {t e size bytes n:Nat} {ps:Array (Nat×Operand)} (rows:List (List Value)) (O:gp P t e size bytes=true) (hp:ps.toList.map (fun p=>(p.1,ev N σ p.2))=(rows.zipIdx 0).map fun q=>(q.2,bV q.1.toArray))
 (E:rows.all (fun r=>r.length==size)=true) (hn:rows.length=n) (hs:(oT (n*size) 1000 && iL 0 n && oT n 1000)=true)
 (k:∀ b w',b=w.heap.size→Nw w w'→w'.heap[b]? =some (.cells rows.flatten.toArray e (0,0))→K (gH σ dst<|.slice (some ⟨b,0,none⟩) n n) w'):dS P N ⟨dst,.buildSlice t n ps,ty,pos,af,g⟩ σ w K:=by
 subst hn;refine oN (v:=fun b=> .slice (some ⟨b,0,none⟩) rows.length rows.length) (ob:= .cells rows.flatten.toArray e (0,0)) ?_ k;obtain ⟨hu,i,zv,hi,V,A,h2,h3,h4⟩:=sw O;simp only [jl] at hs;have I:rows.length*size≤1000:=by simpa using hs.1.1
 have Z:rows.length≤1000:=by simpa using hs.2
 have J:0 < rows.length:=by have :=sU hs.1.2; omega
 have C:nS (fun i=>some (i*size,size)) ((rr<|rows.length*size).map (zv.cells[· % zv.cells.size]!)) (ps.toList.map fun p=>(p.1,ev N σ p.2))=some rows.flatten.toArray:=by
  rw [hp];have Y:((rr<|rows.length*size).map (zv.cells[· % zv.cells.size]!)).toList.length=rows.length*size:=by simp
  have :=Ka (size:=size) rows 0 [] ((rr<|rows.length*size).map (zv.cells[· % zv.cells.size]!)).toList (by simp) Y fun r G=>by have :=List.all_eq_true.1 E r G; simpa using this
  rw [qA,qA,Bn] at this;exact this
 simp only [execOp,Instr.buildSlice,oR,ee hu,oQ,sizeOf,jx hi,rC,A,Sem.run_ite,zeroValue,V,nR,C];rw [if_neg (Nat.not_lt.2<|Nat.le_trans I aB),if_neg (Nat.pos_iff_ne_zero.1<|Nat.mul_pos J h4)];simp [newRow]
end
section
variable {P:Program} {N:Fm} {σ:Nat→Value} {w:World} {dst:Option Nat} {ty:TypeId} {pos :String} {af:Array Edge} {g:Option (Nat×Bool)} {x y:Operand}
end
end Go.Hb
end
section
namespace Go.Hb
open Go.ChangeMaps
open Classical
structure sW (es:List MapEntry) (c:Nat):Prop where
 lt:∀ e∈es,e.born < c
 nd:(es.map (·.born)).Nodup
structure qJ (es:List MapEntry) (isK:Value→Prop) (f:Value→Option Value):Prop where
 ks:∀ e∈es,isK e.key
 nd:(es.map (·.key)).Nodup
 iff :∀ k v,f k=some v↔∃ e∈es,e.key=k∧e.val=v
def lQ (h:Array Obj) (b:Nat) (isK:Value→Prop) (f:Value→Option Value):Prop := ∃ es c,h[b]? =some (.map es c)∧sW es.toList c∧qJ es.toList isK f
theorem lQ.An {h:Array Obj} {b:Nat} {isK:Value→Prop} {f:Value→Option Value} (hm:lQ h b isK f):di h b isK f:=by
 obtain ⟨es,c,h1,_,h3⟩:=hm;refine ⟨_,⟨es,c,h1,aa⟩,fun p hp=> ?_,?_,fun k v=> ?_⟩
 · obtain ⟨e,he,rfl⟩:=jn.1 hp; exact h3.ks e he
 · rw [P8]; exact h3.nd
 · rw [h3.iff,jn];exact ⟨fun ⟨e,he,h1,h2⟩=>⟨e,he,by rw [h1,h2]⟩,fun ⟨e,he,h1⟩=>⟨e,he,congrArg iN h1,congrArg Prod.snd h1⟩⟩
theorem lQ.md {F:Nat→Prop} {w w':World} {b:Nat} {isK:Value→Prop} {f:Value→Option Value} (h:lQ w.heap b isK f) (hm:Md F w w') (A:¬F b):lQ w'.heap b isK f:=by
 obtain ⟨es,c,h1,h2⟩:=h;exact ⟨es,c,by rw [hm.dE b (dO.1 h1).1 A]; exact h1,h2⟩
theorem lQ.nil {h:Array Obj} {b:Nat} {isK:Value→Prop} {c:Nat} (hm:h[b]? =some (.map #[] c)):lQ h b isK fun _=>none:=
 ⟨#[],c,hm,⟨fun _ h=>by simp at h,by simp⟩,fun _ h=>by simp at h,by simp,fun k v=>by simp⟩
def uk (h:Array Obj) (b:Nat) (isK:Value→Prop) (f:Value→Option Value) (kx:Value) (st:Nat):Prop := ∃ es c,h[b]? =some (.map es c)∧sW es.toList c∧qJ es.toList isK f∧∃ e∈es.toList,e.key=kx∧e.born=st
theorem uk.ZZ {h:Array Obj} {b:Nat} {isK:Value→Prop} {f:Value→Option Value} {kx:Value} {st:Nat} (hm:uk h b isK f kx st):lQ h b isK f:=let ⟨es,c,h1,h2,h3,_⟩:=hm; ⟨es,c,h1,h2,h3⟩
theorem qJ.push {es:List MapEntry} {isK:Value→Prop} {f:Value→Option Value} {kx v:Value} {c:Nat} (h:qJ es isK f) (hi:isK kx) (C:∀ e∈es,e.key≠kx):qJ (es++ [{key:=kx,val:=v,born:=c}]) isK (bU f kx v) where
 ks e he:=by
  rcases jm.1 he with he | he
  · exact h.ks e he
  · rw [iK.1 he]; exact hi
 nd:=by
  rw [gW,yC];refine ⟨h.nd,by simp,fun a E b A G=> ?_⟩;obtain ⟨e,he,rfl⟩:=jn.1 E;simp at A;exact C e he<|by rw [G,A]
 iff k u:=by
  unfold bU;by_cases hk:k=kx
  · subst hk;rw [if_pos rfl];constructor
    · intro h1; cases h1; exact ⟨_,yB _ (iK.2 rfl),rfl,rfl⟩
    · rintro ⟨e,he,h1,h2⟩;rcases jm.1 he with he | he
      · exact absurd h1<|C e he
      · rw [iK.1 he] at h2; rw [← h2]
  · rw [if_neg hk,h.iff];constructor
    · rintro ⟨e,he,h1⟩; exact ⟨e,BI _ he,h1⟩
    · rintro ⟨e,he,h1,h2⟩;rcases jm.1 he with he | he
      · exact ⟨e,he,h1,h2⟩
      · rw [iK.1 he] at h1; exact absurd h1.symm hk
theorem sW.push {es:List MapEntry} {kx v:Value} {c:Nat} (h:sW es c):sW (es++ [{key:=kx,val:=v,born:=c}]) (c+1) where
 lt e he:=by
  rcases jm.1 he with he | he
  · have :=h.lt e he; omega
  · rw [iK.1 he]; exact Nat.lt_succ_self _
 nd:=by
  rw [gW,yC];refine ⟨h.nd,by simp,fun a A b C E=> ?_⟩;obtain ⟨e,he,rfl⟩:=jn.1 A;simp at C;have :=h.lt e he; omega
theorem Am {α:Type} (l:List α) (g:α→α) (i j:Nat):(l.modify i g)[j]? =if i=j then (l[j]?).map g else l[j]? :=by
 rw [P4];by_cases h:i=j
 · simp [h]
 · simp [h]
theorem vd {α:Type} {l:List α} {g:α→α} {i:Nat} {e:α} (hi:l[i]? =some e) (x:α):x∈l.modify i g↔x=g e∨∃ j,j≠i∧l[j]? =some x:=by
 rw [List.mem_iff_getElem?];constructor
 · rintro ⟨j,A⟩;rw [Am] at A;by_cases h:i=j
   · subst h; rw [if_pos rfl,hi] at A; exact .inl (vW A).symm
   · rw [if_neg h] at A;exact .inr ⟨j,fun e=>h e.symm,A⟩
 · rintro (rfl | ⟨j,A,h⟩)
   · exact ⟨i,by rw [Am,if_pos aa,hi]; rfl⟩
   · exact ⟨j,by rw [Am,if_neg (fun e=>A e.symm),h]⟩
theorem MG {α β:Type} {l:List α} (g:α→α) (p:α→β) (hp:∀ x,p (g x)=p x) (i:Nat):(l.modify i g).map p=l.map p:=by
 apply qw;intro j;rw [gx,gx,Am];cases l[j]? with
 | none=>by_cases h:i=j <;> simp [h]
 | some x=>by_cases h:i=j <;> simp [h,hp]
theorem qJ.abU {es:List MapEntry} {isK:Value→Prop} {f:Value→Option Value} {v:Value} {i:Nat} {e:MapEntry} (h:qJ es isK f) (hi:es[i]? =some e):qJ (es.modify i fun e=> {e with val:=v}) isK (bU f e.key v) where
 ks x C:=by
  rcases (vd hi x).1 C with rfl | ⟨j,_,A⟩
  · exact h.ks e<|gC hi
  · exact h.ks x<|gC A
 nd:=by rw [MG (fun e:MapEntry=> {e with val:=v}) (·.key) (fun _=>rfl)]; exact h.nd
 iff k u:=by
  have J:∀ {j:Nat} {x:MapEntry},es[j]? =some x→x.key=e.key→j=i:=fun {j x} A hk=>by
   have I:=(fL.1 A).1;exact (GL (by simpa using I) h.nd).1<|by rw [gx,gx,A,hi,lL,lL,hk]
  unfold bU;by_cases hk:k=e.key
  · subst hk;rw [if_pos rfl];constructor
    · intro h1; cases h1; exact ⟨_,(vd hi _).2 (.inl rfl),rfl,rfl⟩
    · rintro ⟨x,C,h1,h2⟩;rcases (vd hi x).1 C with rfl | ⟨j,A,G⟩
      · rw [← h2]
      · exact absurd (J G h1) A
  · rw [if_neg hk,h.iff];constructor
    · rintro ⟨x,C,h1,h2⟩;obtain ⟨j,A⟩:=tZ C;have E:j≠i:=fun E=>by subst E; rw [hi] at A; cases A; exact hk h1.symm
      exact ⟨x,(vd hi x).2 (.inr ⟨j,E,A⟩),h1,h2⟩
    · rintro ⟨x,C,h1,h2⟩;rcases (vd hi x).1 C with rfl | ⟨j,_,G⟩
      · exact absurd h1.symm hk
      · exact ⟨x,gC G,h1,h2⟩
theorem aa1 {f:Value→Option Value} {k v:Value} (h:f k=some v):bU f k v=f:=by
 funext q; unfold bU;by_cases A:q=k
 · subst A; rw [if_pos rfl,h]
 · rw [if_neg A]
section
variable {P:Program} {N:Fm} {σ:Nat→Value} {w:World} {dst:Option Nat} {ty:TypeId} {pos :String} {af:Array Edge} {g:Option (Nat×Bool)} {x y z:Operand} {K:(Nat→Value)→World→Prop}
variable {t k e:TypeId} {isK:Value→Prop} {b:Nat} {f:Value→Option Value} {kx v zv:Value}
theorem ZN (ag:P.underlying t=some (.map k e)) (ak:zeroV P e=some zv) (I:mF P k isK) (hm:lQ w.heap b isK f) (hi:isK kx):
 ∃ st w',(Gl t (.map<|some b) kx).run P w= .ok (.tuple #[(f kx).getD zv,.int .i64 ((st:Nat):Int)]) w'∧Md (fun j=>j=b) w w'∧uk w'.heap b isK (bU f kx<|(f kx).getD zv) kx st:=by
 obtain ⟨es,c,G,O,E⟩:=hm;have V:=(dO.1 G).1;rcases I.key.find w kx es.toList hi E.ks with ⟨h1,ae⟩ | ⟨j,C,h1,Z,h5⟩
 · have A:f kx=none:=by
    cases A:f kx with
    | none=>rfl
    | some u=>obtain ⟨ah,ai,h2,_⟩:=(E.iff kx u).1 A; exact absurd h2<|ae ah ai
   refine ⟨c,{w with heap:=w.heap.setIfInBounds b<|.map (es.push {key:=kx,val:=zv,born:=c})<|c+1},?_,⟨aa,aa,by simp,fun i _ J=>by simp only; rw [vF (fun e=>J e.symm)]⟩,es.push {key:=kx,val:=zv,born:=c},c+1,by simp only; rw [vG V],?_,?_,?_⟩
   · rw [A];simp [Gl,ee ag,run_getObj_map G,I.key.check _ w kx hi,h1,setObj,tV,G,yc ak,goInt]
   · rw [Ge]; exact O.push
   · rw [Ge,A]; exact E.push hi ae
   · exact ⟨_,by rw [Ge]; exact yB _ (iK.2 aa),aa,aa⟩
 · have ab:es[j]? =some C:=by simpa using Z
   have ac:=gC Z;have A:f kx=some C.val:=(E.iff kx _).2 ⟨C,ac,h5,rfl⟩;have aj:(es.modify j fun e=> {e with key:=kx})=es:=by
    apply Array.ext_getElem?;intro i;rw [Array.getElem?_modify];by_cases Y:j=i
    · subst Y; rw [if_pos rfl,ab,← h5]; rfl
    · rw [if_neg Y]
   refine ⟨C.born,{w with heap:=w.heap.setIfInBounds b<|.map (es.modify j fun e=> {e with key:=kx}) c},?_,⟨aa,aa,by simp,fun i _ J=>by simp only; rw [vF (fun e=>J e.symm)]⟩,es,c,by simp only; rw [vG V,aj],O,?_,C,ac,h5,aa⟩
   · have hs:=I.stays w kx hi;rw [A];simp [Gl,ee ag,run_getObj_map G,I.key.check _ w kx hi,h1,ab,h5,hs,setObj,tV,G,goInt]
   · rw [A]; show qJ _ _ (bU f kx C.val); rw [aa1 A]; exact E
theorem ZM (C:P.underlying t=some (.map k e)) (I:zeroV P e=some zv) (A:mF P k isK) (hm:lQ w.heap b isK f) (E:ev N σ x= .map (some b)) (G:ev N σ y=kx) (hi:isK kx)
 (J:∀ (st:Nat) w',Md (fun j=>j=b) w w'→uk w'.heap b isK (bU f kx<|(f kx).getD zv) kx st→K (gH σ dst<|.tuple #[(f kx).getD zv,.int .i64 (st:Nat)]) w'):dS P N ⟨dst,.mapEntry t x y,ty,pos,af,g⟩ σ w K:=by
 obtain ⟨st,w',h1,h2,h3⟩:=ZN C I A hm hi;refine nf (v:= .tuple #[(f kx).getD zv,.int .i64 (st:Nat)]) ?_<|J st w' h2 h3;simp [execOp,E,G,h1]
theorem ZP {st:Nat} (hm:uk w.heap b isK f kx st):∃ w',(Pv t (.map<|some b) (.int .i64 (st:Nat)) v).run P w= .ok () w'∧Md (fun j=>j=b) w w'∧lQ w'.heap b isK (bU f kx v):=by
 obtain ⟨es,c,E,C,Z,G,I,ag,V⟩:=hm;have ab:=(dO.1 E).1;obtain ⟨i,hi⟩:=tZ I;have J:es[i]? =some G:=by simpa using hi
 have ae:=(dO.1 J).1;have ac:es.findIdx? (fun e=>(e.born:Int)==(st:Int))=some i:=by
  rw [Array.findIdx?_eq_some_iff_getElem];refine ⟨ae,?_,fun j O=> ?_⟩
  · rw [(dO.1 J).2,V]; simp
  · have A:(es.toList.map (·.born))[j]?≠(es.toList.map (·.born))[i]? :=fun h=>by
     have :=(GL (by simp; omega) C.nd).1 h; omega
    rw [gx,gx,hi,cx (by simp; omega)] at A;simp only [lL,Array.getElem_toList] at A;simp only [beq_iff_eq];intro h;exact A<|congrArg some<|by rw [V]; omega
 refine ⟨{w with heap:=w.heap.setIfInBounds b<|.map (es.modify i fun e=> {e with val:=v}) c},?_,⟨aa,aa,by simp,fun j _ A=>by simp only; rw [vF (fun e=>A e.symm)]⟩,es.modify i fun e=> {e with val:=v},c,by simp only; rw [vG ab],⟨fun x Y=> ?_,?_⟩,?_⟩
 · simp [Pv,run_getObj_map E,asInt,asIntOf,ac,setObj,tV,E]
 · rw [Bq] at Y;rcases (vd hi x).1 Y with rfl | ⟨j,_,O⟩
   · exact C.lt G I
   · exact C.lt x<|gC O
 · rw [Bq,MG (fun e:MapEntry=> {e with val:=v}) (·.born) (fun _=>rfl)]; exact C.nd
 · rw [Bq,← ag]; exact Z.abU hi
theorem ZO {st:Nat} (hm:uk w.heap b isK f kx st) (C:ev N σ x= .map (some b)) (E:ev N σ y= .int .i64 (st:Nat)) (G:ev N σ z=v)
 (I:∀ w',Md (fun j=>j=b) w w'→lQ w'.heap b isK (bU f kx v)→K σ w'):dS P N ⟨none,.entryStore t x y z,ty,pos,af,g⟩ σ w K:=by
 obtain ⟨w',h1,h2,h3⟩:=ZP (P:=P) (t:=t) (v:=v) hm;have A:(execOp (ev N σ) ⟨none,.entryStore t x y z,ty,pos,af,g⟩).run P w= .ok .skip w':=by
  simp [execOp,C,E,G,h1]
 unfold dS kt;rw [jD,A];exact ⟨σ,aa,I w' h2 h3⟩
end
def qK (h:Array Obj) (r b:Nat) (left :List (Value×Value)):Prop :=
 ∃ (es:Array MapEntry) (c:Nat) (seen:Array Nat) (A:Nat),h[r]? =some (.mapIter (some b) c seen A)∧c≤A∧h[b]? =some (.map es c)∧sW es.toList c∧(leftOf es seen).toList.map (fun e=>(e.key,e.val))=left
def vZ (h:Array Obj) (r b:Nat) (left :List (Value×Value)) (A:Value×Value):Prop :=
 ∃ (es:Array MapEntry) (c:Nat) (seen:Array Nat) (e:MapEntry),h[r]? =some (.mapIter (some b) c (seen.push e.born) c)∧h[b]? =some (.map es c)∧sW es.toList c∧(leftOf es<|seen.push e.born).toList.map (fun e=>(e.key,e.val))=left∧e∈es.toList∧(e.key,e.val)=A
theorem vZ.Z0 {h:Array Obj} {r b:Nat} {left :List (Value×Value)} {A:Value×Value} (hm:vZ h r b left A):qK h r b left :=let ⟨es,c,seen,e,h1,h2,h3,h4,_⟩:=hm; ⟨es,c,_,c,h1,cU _,h2,h3,h4⟩
theorem qK.md {F:Nat→Prop} {w w':World} {r b:Nat} {left :List (Value×Value)} (h:qK w.heap r b left) (hm:Md F w w') (E:¬F r) (C:¬F b):qK w'.heap r b left :=by
 obtain ⟨es,c,seen,A,h1,h2,h3,h4⟩:=h;exact ⟨es,c,seen,A,by rw [hm.dE r (dO.1 h1).1 E]; exact h1,h2,by rw [hm.dE b (dO.1 h3).1 C]; exact h3,h4⟩
section
variable {P:Program} {N:Fm} {σ:Nat→Value} {w:World} {dst:Option Nat} {ty:TypeId} {pos :String} {af:Array Edge} {g:Option (Nat×Bool)} {x y z:Operand} {K:(Nat→Value)→World→Prop}
variable {t k e:TypeId} {isK:Value→Prop} {b:Nat} {f:Value→Option Value} {kx v zv:Value}
theorem rgm (I:P.underlying t=some (.map k e)) (hm:lQ w.heap b isK f) (J:ev N σ x= .map (some b))
 (O:∀ r w' left,r=w.heap.size→Nw w w'→qK w'.heap r b left→(∀ p∈left,isK p.1)→(left.map iN).Nodup→(∀ k v,f k=some v↔(k,v)∈left)→K (gH σ dst<|.pointer<|some ⟨r,0,none⟩) w'):
 dS P N ⟨dst,.range t x,ty,pos,af,g⟩ σ w K:=by
 obtain ⟨es,c,C,E,A⟩:=hm;have G:=(dO.1 C).1;refine oN (v:=fun r=> .pointer<|some ⟨r,0,none⟩) (ob:= .mapIter (some b) c #[] c) ?_ (fun r w' h1 h2 h3=>O r w' (es.toList.map fun e=>(e.key,e.val)) h1 h2 ⟨es,c,#[],c,h3,cU _,by rw [h2.md.dE b G id]; exact C,E,by unfold leftOf; simp only [Bo]; rw [BE.2 (fun x _=>by simp)]⟩ ?_ ?_ ?_)
 · simp [execOp,J,Instr.range,ee I,run_getObj_map C]
 · intro p hp; obtain ⟨e,he,rfl⟩:=jn.1 hp; exact A.ks e he
 · rw [P8]; exact A.nd
 · intro k v;rw [A.iff,jn];exact ⟨fun ⟨e,he,h1,h2⟩=>⟨e,he,by rw [h1,h2]⟩,fun ⟨e,he,h1⟩=>⟨e,he,congrArg iN h1,congrArg Prod.snd h1⟩⟩
theorem Zi {es:Array MapEntry} {seen:Array Nat} {e:MapEntry} (hn:(es.toList.map (·.born)).Nodup) (he:e∈(leftOf es seen).toList):(leftOf es seen).toList.Perm (e::(leftOf es<|seen.push e.born).toList):=by
 have h1:(leftOf es<|seen.push e.born).toList=(leftOf es seen).toList.filter fun x=>x.born !=e.born:=by
  unfold leftOf;simp only [Bo,List.filter_filter];congr 1;funext x;have E:(seen.push e.born).contains x.born=(seen.contains x.born || x.born==e.born):=by
   rw [sI]; simp [Array.mem_push]
  rw [E,Bool.not_or,Bool.and_comm]; rfl
 have A:((leftOf es seen).toList.map (·.born)).Nodup:=by
  unfold leftOf;rw [Bo];exact (List.filter_sublist.map _).nodup hn
 rw [h1];generalize (leftOf es seen).toList=l at he A;clear h1
 induction l with
 | nil=>cases he
 | cons a l J=>
   rw [sT,BK] at A;by_cases C:a=e
   · subst C;have h2:(a::l).filter (fun x=>x.born !=a.born)=l:=by
      rw [qy,if_neg (by simp)];exact BE.2 fun x I=>by
       have :x.born≠a.born:=fun h=>A.1<|h ▸ ub I;simpa using this
     rw [h2]
   · have xw:e∈l:=by
      rcases fG.1 he with h | h
      · exact absurd h.symm C
      · exact h
     have G:a.born≠e.born:=fun h=>A.1<|h ▸ ub xw;rw [qy,if_pos (by simpa using G)];exact ((J xw A.2).cons a).trans<|List.Perm.swap e a _
theorem nxm {r:Nat} {left :List (Value×Value)} (hm:qK w.heap r b left) (Y:ev N σ x= .pointer (some ⟨r,0,none⟩))
 (ae:left = []→K (gH σ dst<|.tuple #[.bool false]) w)
 (h1:∀ C Z w',left.Perm (C::Z)→Md (fun j=>j=r) w w'→vZ w'.heap r b Z C→K (gH σ dst<|.tuple #[.bool true,C.1,C.2]) w'):
 dS P N ⟨dst,.next x false,ty,pos,af,g⟩ σ w K:=by
 obtain ⟨es,c,seen,ac,G,ag,A,E,rfl⟩:=hm;rcases run_next_at (P:=P) w ty r b c ac seen es c G A E.lt ag with ⟨h2,J⟩ | ⟨e,he,ab,O,J⟩
 · refine nf (v:= .tuple #[.bool false]) ?_<|ae<|by rw [Array.eq_empty_of_size_eq_zero h2]; rfl
   simp [execOp,Y,J]
 · have I:ab.heap=w.heap:=by rcases O with rfl | rfl <;> rfl
   have V:Md (fun j=>j=r) w (setBlock ab r<|.mapIter (some b) c (seen.push e.born) c):=by
    refine ⟨?_,?_,?_,fun j _ ah=> ?_⟩
    · rcases O with rfl | rfl <;> rfl
    · rcases O with rfl | rfl <;> rfl
    · simp [setBlock,I]
    · simp only [setBlock,I]; rw [vF (fun e=>ah e.symm)]
   have ai:r≠b:=fun h=>by subst h; rw [G] at A; cases A
   refine nf (v:= .tuple #[.bool true,e.key,e.val]) ?_ (h1 (e.key,e.val) _ _ (by have :=(Zi E.nd he).map (fun e=>(e.key,e.val)); exact this) V ⟨es,c,seen,e,?_,?_,E,aa,?_,aa⟩)
   · simp [execOp,Y,J]
   · simp only [setBlock,I]; rw [vG (dO.1 G).1]
   · rw [V.dE b (dO.1 A).1 (fun h=>ai h.symm)]; exact A
   · unfold leftOf at he;rw [Bo] at he;exact (List.mem_filter.1 he).1
def MW (b:Bool) (A:Value×Value):Value:=match b with | true => .tuple #[.bool true,A.1,A.2] | false => .tuple #[.bool false]
theorem nxe {A:Bool} {E:Value×Value} (C:ev N σ x=MW A E):(execOp (ev N σ) ⟨dst,.extract x 0,ty,pos,af,g⟩).run P w= .ok (.value<|.bool A) w:=by
 cases A
 · exact xt C aa
 · exact xt C aa
theorem nxb {r:Nat} {left :List (Value×Value)} (hm:qK w.heap r b left) (I:ev N σ x= .pointer (some ⟨r,0,none⟩))
 (h:∀ E A C w',(E=false→left = []∧w'=w)→(E=true→left.Perm (A::C)∧Md (fun j=>j=r) w w'∧vZ w'.heap r b C A)→K (gH σ dst<|MW E A) w'):
 dS P N ⟨dst,.next x false,ty,pos,af,g⟩ σ w K:=
 nxm hm I (fun G=>h false (.nilFunc,.nilFunc) [] w (fun _=>⟨G,rfl⟩) fun h=>by cases h) (fun A C w' h1 h2 h3=>h true A C w' (fun h=>by cases h) fun _=>⟨h1,h2,h3⟩)
theorem eM {r:Nat} {left :List (Value×Value)} {A:Value×Value} (hm:vZ w.heap r b left A) (C:ev N σ x= .pointer (some ⟨r,0,none⟩)):
 (execOp (ev N σ) ⟨dst,.entry x,ty,pos,af,g⟩).run P w= .ok (.value<|.tuple #[A.1,A.2]) w:=by
 obtain ⟨es,c,seen,e,h1,h2,h3,_,h5,rfl⟩:=hm;have :=run_entry_at (P:=P) w r b c seen es c e h1 h2 h5 h3.nd;simp [execOp,C,this]
end
end Go.Hb
end
section
namespace Go.Hb
abbrev Tl:=List<|List UInt8
def D3:Tl→List (UInt8×Tl)
 | []=> []
 | []::ts=>D3 ts
 | (c::t)::ts=>match D3 ts with
   | []=> [(c,[t])]
   | (A,g)::r=>if c=A then (c,t::g)::r else (c,[t])::(A,g)::r
def YO (A:Tl):Bool:=match A with | []::_=>true | _=>false
def VQ (A:Tl):Tl:=match A with | []::r=>r | r=>r
structure VS where
 known:List Tl
 sts:List (Bool×List (UInt8×Nat))
def VS.add (s:VS) (A:Tl):VS:=⟨s.known++ [A],s.sts++ [(false,[])]⟩
end Go.Hb
namespace Go.Hb
end Go.Hb
namespace Go.Hb
abbrev QE:=Bool×List (UInt8×Nat)
end Go.Hb
namespace Go.Hb
end Go.Hb
namespace Go.Hb
def VZ (A:List Tl) (p:UInt8×Tl):UInt8×Nat:=(p.1,A.idxOf p.2+1)
def enc (A:List Tl) (L:Tl):QE:=(YO L,(D3<|VQ L).map (VZ A))
end Go.Hb
namespace Go.Hb
end Go.Hb
namespace Go.Hb
end Go.Hb
namespace Go.Hb
end Go.Hb
end
namespace Go.Hb
def vz:Tx:= [83,70,88,32,65,32,89,32,49,10,83,70,88,32,65,32,48,32,115,10]
def Ba:Tx:= [50,10,103,97,115,10,103,97,47,65,10]
def hU:aU:=⟨1,[],[],[0,0,0,0,0],3,[],[],[⟨65,2,true,0,1⟩],[⟨2,65,true,[],[115],[46],[],2⟩]⟩
def jL:List bC:= [([103,97,115],[]),([103,97],[65])]
theorem ads:bZ vz= [(1,[[83,70,88],[65],[89],[49]]),(2,[[83,70,88],[65],[48],[115]])]:=by decide+kernel
theorem adt:bZ Ba= [(1,[[50]]),(2,[[103,97,115]]),(3,[[103,97,47,65]])]:=by decide+kernel
theorem adu {s:Tx} {ln:Nat} (hw:bF s=(s,[],false,0)) (A:s≠[48]) (C:ij s=0):gd 1 [] ⟨65,2,true,0,1⟩ ln [[83,70,88],[65],[48],s]= .ok ⟨2,65,true,[],s,[46],[],ln⟩:=by
 unfold gd;rw [if_neg (by simp)];simp only [l6,P2];rw [show eO true [48]= .ok [] from if_pos ⟨rfl,rfl⟩,hw];simp only;rw [show j8 (s,[],false,0)= .ok s from by unfold j8; rw [if_neg (by simp),if_neg A,if_neg (by simp [C])]];rfl
theorem adl:fQ vz= .ok hU:=by
 unfold fQ;rw [if_neg aB,ads];simp only [cV,gB];have E:cH ((bP vz).length+1) iR [] [(2,[[83,70,88],[65],[48],[115]])] 1 [[83,70,88],[65],[89],[49]]= .ok (hU,[]):=by
  unfold cH;simp only [l6];rw [if_neg aB,if_neg aB,if_neg aB,if_neg aB,if_neg aB,if_neg aB,if_neg aB];unfold ic;simp only [l6,P2];rw [adE];simp only;rw [if_neg (by simp),MU (b:=49) aB aB];simp only;rw [if_neg aB];have C:∀ b,b=true→group [[83,70,88],[65]] (gd iR.kind iR.aliases ⟨65,if ([83,70,88]:Tx)=dB then 2 else 1,b,iR.rules.length,Qw 49 - 48⟩) ((bP vz).length+1) (Qw 49 - 48) [(2,[[83,70,88],[65],[48],[115]])]= .ok (hU.rules,[]):=by
   intro b A;subst A;show group [[83,70,88],[65]] (gd 1 [] ⟨65,2,true,0,1⟩) _ 1 _=_;rw [group,if_neg aB,adu (by decide+kernel) aB aB];rfl
  rw [C _ (by simp)];simp only [decide_true];rfl
 rw [ir];simp only [l6];rw [if_neg aB,if_neg aB,if_neg aB,E];simp only;rw [ir];rfl
theorem adp:fN hU Ba= .ok jL:=by
 have C:gl hU [[103,97,47,65]]= .ok ([103,97],[65]):=by
  have hw:bF [103,97,47,65]=([103,97],[65],true,0):=by decide+kernel
  refine (Dc (row:= [[103,97,47,65]]) (set := [65]) aa ?_ ?_ ?_ ?_ ?_ ?_ ?_).trans ?_
  all_goals try simp only [l6,hw]
  · decide
  · decide
  · simp
  · show gA 1 [] [65]=_;unfold gA; rw [if_pos rfl]; exact adF
  · intro i hi;have :i=0:=by simpa using hi
    subst this; decide
 have A:gl hU [[103,97,115]]= .ok ([103,97,115],[]):=by
  have hw:bF [103,97,115]=([103,97,115],[],false,0):=by decide+kernel
  unfold gl;simp only [l6,hw];rw [if_neg (by simp),if_neg (by simp),if_neg aB,if_neg aB,if_pos trivial]
 have hn:fw [50] 8192= .ok 2:=MU aB aB;rw [Js aB adt rfl (show fw ([[50]].getD 0 []) 8192= .ok 2 from hn),fA,A];simp only;rw [fA,C];simp only;rw [fA];rfl
theorem adm:eH ⟨2,65,true,[],[115],[46],[],2⟩ [103,97]=some [103,97,115]:=by
 have A:dz [46]=([],0):=by unfold dz; rw [if_neg (by simp),if_pos rfl]
 unfold eH ik;simp only [A];rw [if_pos (by simp only [if_true,gB]; rfl)];rfl
def Bb:List bK:= [⟨[103,97,115],0,-1,-1,-1⟩,⟨[103,97,115],1,0,-1,-1⟩]
theorem adn:j0 hU jL 0= [⟨[103,97,115],0,-1,-1,-1⟩]:=by
 have h1:bj hU (flagsOf jL (0:Nat)) 1= []:=aB;have h2:bj hU (flagsOf jL (0:Nat)) 2= []:=aB;unfold j0 iy;rw [h1,h2];simp only [GJ,eB,List.filterMap_nil];unfold oo;rw [if_pos aB];rfl
theorem ado:j0 hU jL 1= [⟨[103,97],1,-1,-1,-1⟩,⟨[103,97,115],1,0,-1,-1⟩]:=by
 have h1:bj hU (flagsOf jL (1:Nat)) 1= []:=aB;have h2:bj hU (flagsOf jL (1:Nat)) 2= [0]:=aB;have h3:bj hU (cw hU (0:Nat)) 2= []:=aB;have A:∀ w f s,iy hU jL 1 w f s=oo hU jL 1 w f s:=fun w f s=>by unfold iy; rw [h1]; simp
 unfold j0;rw [h2,A];simp only [ku,GJ,eB];unfold lX;rw [show eH (hU.rules.getD 0 dR) (jL.getD 1 ([],[])).1=some [103,97,115] from adm];simp only [h3,GJ,eB,A];unfold oo;rw [if_pos aB,if_pos aB];rfl
end Go.Hb
section
namespace Go.Hb.eT
open Go.Proofs
def lF (l:List (Tx×Tx)):List Value:=l.flatMap fun p=> [str p.1,str p.2]
def ph (c:dy):List Value:= [bo c.flag,.int .i64 (c.kind:Nat),.bool c.eI,.int .i64 (c.first:Nat),.int .i64 (c.count:Nat)]
def oq (l:List dy):List Value:=l.flatMap ph
def e6 (q:c7×Value):List Value:= [.int .i64 (q.1.kind:Nat),bo q.1.flag,.bool q.1.eI,str q.1.strip,str q.1.add,str q.1.cond,q.2]
def iG (l:List (c7×Value)):List Value:=l.flatMap e6
structure dD where
 rb:Nat
 fb:Nat
 ms:Nat
 mt:Nat
 mc:Nat
 eof:Nat
structure fH where
 v9:Value
 v10:Value
 v11:Value
 v12:Value
 sa:List Value
 rn:List Value
structure iO where
 vr:Value
 vs:List (Nat×Value)
 vn:Value
def qa (F:aU) (V:fH) (mc:Nat):List Value:= [.int .i64 (F.kind:Nat),str F.tg,str F.tr,bo (F.sp.getD 0 0),bo (F.sp.getD 1 0),bo (F.sp.getD 2 0),bo (F.sp.getD 3 0),bo (F.sp.getD 4 0),.int .i64 (F.least:Nat),V.v9,V.v10,V.v11,V.v12,.map (some mc)]
def xQ (H:dD) (R:iO) (ln:Nat):List Value:= [.pointer (some ⟨H.fb,0,none⟩),R.vr,.int .i64 (ln:Nat),.int .i64 (H.eof:Nat),.map (some H.ms),.map (some H.mt),R.vn]
structure ei (w:World) (B fb mc:Nat) (F:aU) (V:fH):Prop where
 cells:w.heap[fb]? =some (.cells (qa F V mc).toArray 164 (0,0))
 o9:bz w B 189 2 V.v9 F.dA.length (lF F.dA)
 fk:bz w B 51 1 V.v10 F.aliases.length V.sa
 al:eL w B 95 V.sa F.aliases
 eK:bz w B 192 5 V.v11 F.bE.length (oq F.bE)
 dM:bz w B 134 7 V.v12 F.rules.length (iG<|F.rules.zip V.rn)
 nx:eL w B 95 V.rn (F.rules.map (·.next))
 cm:∃ f,di w.heap mc (k5 .u16) f∧∀ x:Nat,f (bo x)=(F.bE.findIdx? fun c=>decide (c.flag=x)).map fun i:Nat=>Value.int .i64 i
 lo:B≤fb∧B≤mc
 gr:F.sp.length=5
theorem ei.md {G:Nat→Prop} {w w':World} {B fb mc:Nat} {F:aU} {V:fH} (h:ei w B fb mc F V) (hm:Md G w w') {L:List Nat} (A:TF w L G) (C:(L.contains 166 || L.contains 191 || L.contains 53 || L.contains 97 || L.contains 194 || L.contains 136)=false) (Y:¬G mc):ei w' B fb mc F V:=by
 simp only [oP] at C;obtain ⟨⟨⟨⟨⟨h1,h2⟩,h3⟩,h4⟩,h5⟩,h6⟩:=C;have E:∀ k,G k→∀ cur z,w.heap[k]?≠some (.cells cur 95 z):=fun k hk cur z O=>A.no (dN O) h4 hk;obtain ⟨f,I,J⟩:=h.cm;exact ⟨hm.iT A h.cells h1,cQ h.o9 hm A h2,cQ h.fk hm A h3,h.al.md hm E,cQ h.eK hm A h5,cQ h.dM hm A h6,h.nx.md hm E,⟨f,I.md hm Y,J⟩,h.lo,h.gr⟩
theorem ei.wk {w w':World} {B fb mc:Nat} {F:aU} {V:fH} (h:ei w B fb mc F V) (hm:Wk w w'):ei w' B fb mc F V:=h.md (L:= []) hm (fun _ hk=>hk.elim) rfl id
structure dI (w:World) (B:Nat) (H:dD) (F:aU) (R:iO) (rows:List Rw) (ln:Nat) (seen:List Tx):Prop where
 cells:w.heap[H.rb]? =some (.cells (xQ H R ln).toArray 167 (0,0))
 rws:nk w B 181 rows.length R.vr (lg R.vs)
 rt:iQ w B 9 R.vs rows
 sm:∃ f,di w.heap H.ms jT f∧∀ s:Tx,(f<|str s).getD (.int .i64 0)= .int .i64 (seen.count s:Nat)
 tm:∃ f,di w.heap H.mt (k5 .u16) f∧∀ x:Nat,x≠0→(f<|bo x).getD (.int .i64 0)= .int .i64 ((if eV F x=true then 1 else 0:Nat):Nat)
 on :bz w B 3 1 R.vn F.rules.length (F.rules.map fun r=>Value.int .i64 (r.line:Nat))
 lo:B≤H.rb∧B≤H.ms∧B≤H.mt
 ne:H.ms≠H.mt∧H.ms≠H.mc∧H.mt≠H.mc
theorem dI.md {G:Nat→Prop} {w w':World} {B:Nat} {H:dD} {F:aU} {R:iO} {rows:List Rw} {ln:Nat} {seen:List Tx} (h:dI w B H F R rows ln seen) (hm:Md G w w') {L:List Nat} (A:TF w L G) (E:(L.contains 169 || L.contains 183 || L.contains 11 || L.contains 5)=false) (Y:¬G H.ms) (Z:¬G H.mt):dI w' B H F R rows ln seen:=by
 simp only [oP] at E;obtain ⟨⟨⟨h1,h2⟩,h3⟩,h4⟩:=E;obtain ⟨f,I,J⟩:=h.sm;obtain ⟨g,O,V⟩:=h.tm;exact ⟨hm.iT A h.cells h1,h.rws.md hm (fun k hk cur z C=>A.no (dN C) h2 hk),h.rt.md hm (fun k hk cur z C=>A.no (dN C) h3 hk),⟨f,I.md hm Y,J⟩,⟨g,O.md hm Z,V⟩,cQ h.on hm A h4,h.lo,h.ne⟩
theorem dI.wk {w w':World} {B:Nat} {H:dD} {F:aU} {R:iO} {rows:List Rw} {ln:Nat} {seen:List Tx} (h:dI w B H F R rows ln seen) (hm:Wk w w'):dI w' B H F R rows ln seen:=h.md (L:= []) hm (fun _ hk=>hk.elim) rfl id id
theorem dI.dC {w:World} {B:Nat} {H:dD} {F:aU} {R:iO} {rows:List Rw} {ln:Nat} {seen:List Tx} (h:dI w B H F R rows ln seen):Hb.aW w.heap H.rb 2=some (.int .i64 (ln:Nat)):=(bg h.cells).trans rfl
structure lj (F:aU) (rows:List Rw) (seen:List Tx):Prop where
 len:F.dA.length+F.aliases.length+F.bE.length+F.rules.length+rows.length≤70000
 sl:seen.length+rows.length≤70000
 row:∀ q∈rows,q.2≠[]∧q.2.length≤70000∧∀ x∈q.2,x.length≤70000
 kd:F.kind=1∨F.kind=2∨F.kind=3
 al:∀ l∈F.aliases,l.length≤64∧l.Pairwise (· < ·)
def St (w:World) (B:Nat) (H:dD) (F:aU) (rows:List Rw) (ln:Nat) (seen:List Tx):Prop := ∃ V R,ei w B H.fb H.mc F V∧dI w B H F R rows ln seen∧lj F rows seen
abbrev fW (B:Nat) (H:dD) (w w':World):Prop :=Mw [169,166,191,53,194,136,5] H.ms H.mt H.mc B w w'
theorem dI.dT {w w':World} {B:Nat} {H:dD} {F:aU} {R R':iO} {rows rows':List Rw} {ln ln':Nat} {seen:List Tx} (h:dI w B H F R rows ln seen) (hm:Md (fun k=>k=H.rb) w w') (I:w'.heap[H.rb]? =some (.cells (xQ H R' ln').toArray 167 (0,0))) (Z:R'.vn=R.vn) (V:nk w B 181 rows'.length R'.vr (lg R'.vs)) (Y:iQ w B 9 R'.vs rows'):dI w' B H F R' rows' ln' seen:=by
 obtain ⟨f,E,J⟩:=h.sm;obtain ⟨g,G,O⟩:=h.tm;have A:TF w [169] (fun k=>k=H.rb):=TF.eq (dN h.cells) aB;exact ⟨I,V.md hm (fun k hk cur z C=>A.no (dN C) aB hk),Y.md hm (fun k hk cur z C=>A.no (dN C) aB hk),⟨f,E.md hm (A.no (eR E) aB),J⟩,⟨g,G.md hm (A.no (eR G) aB),O⟩,Z ▸ cQ h.on hm A aB,h.lo,h.ne⟩
theorem iQ.tl {w:World} {B e:Nat} {q:Nat×Value} {r:Rw} {vs:List (Nat×Value)} {rs:List Rw} (h:iQ w B e (q::vs) (r::rs)):iQ w B e vs rs:=⟨by have :=h.1; simpa using this,fun i A C h1 h2=>h.2 (i+1) A C h1 h2⟩
theorem ei.put {w w':World} {B fb mc:Nat} {F F':aU} {V:fH} (h:ei w B fb mc F V) (hm:Md (fun k=>k=fb) w w') (G:w'.heap[fb]? =some (.cells (qa F' V mc).toArray 164 (0,0))) (h1:F'.dA=F.dA) (h2:F'.aliases=F.aliases) (h3:F'.bE=F.bE) (h4:F'.rules=F.rules) (h5:F'.sp.length=5):ei w' B fb mc F' V:=by
 have A:TF w [166] (fun k=>k=fb):=TF.eq (dN h.cells) aB;have E:∀ k,k=fb→∀ cur z,w.heap[k]?≠some (.cells cur 95 z):=fT h.cells aB;obtain ⟨f,C,I⟩:=h.cm;exact ⟨G,h1 ▸ cQ h.o9 hm A aB,h2 ▸ cQ h.fk hm A aB,h2 ▸ h.al.md hm E,h3 ▸ cQ h.eK hm A aB,h4 ▸ cQ h.dM hm A aB,h4 ▸ h.nx.md hm E,⟨f,C.md hm (A.no (eR C) aB),h3 ▸ I⟩,h.lo,h5⟩
theorem dI.fb {w w':World} {B:Nat} {H:dD} {F C:aU} {V:fH} {R:iO} {rows:List Rw} {ln:Nat} {seen:List Tx} (h:dI w B H F R rows ln seen) (E:ei w B H.fb H.mc C V) (hm:Md (fun k=>k=H.fb) w w'):dI w' B H F R rows ln seen:=by
 have A:TF w [166] (fun k=>k=H.fb):=TF.eq (dN E.cells) aB;obtain ⟨f,G,J⟩:=h.sm;obtain ⟨g,I,O⟩:=h.tm;exact h.md hm A aB (A.no (eR G) aB)<|A.no (eR I) aB
theorem ei.rb {w w':World} {B:Nat} {H:dD} {F A:aU} {V:fH} {R:iO} {rows:List Rw} {ln:Nat} {seen:List Tx} (h:ei w B H.fb H.mc A V) (E:dI w B H F R rows ln seen) (hm:Md (fun k=>k=H.rb) w w'):ei w' B H.fb H.mc A V:=by
 have C:TF w [169] (fun k=>k=H.rb):=TF.eq (dN E.cells) aB;obtain ⟨f,G,I⟩:=h.cm;exact h.md hm C aB<|C.no (eR G) aB
theorem dI.congr {w:World} {B:Nat} {H:dD} {F F':aU} {R:iO} {rows:List Rw} {ln:Nat} {seen:List Tx} (h:dI w B H F R rows ln seen) (E:F'.rules=F.rules) (hd:∀ x,eV F' x=eV F x):dI w B H F' R rows ln seen:=by
 obtain ⟨g,A,C⟩:=h.tm;exact ⟨h.cells,h.rws,h.rt,h.sm,⟨g,A,fun x G=>by rw [hd]; exact C x G⟩,E ▸ h.on,h.lo,h.ne⟩
theorem dI.xH {w w':World} {B:Nat} {H:dD} {F F':aU} {R:iO} {rows:List Rw} {ln:Nat} {seen:List Tx} {f:Value→Option Value} (h:dI w B H F R rows ln seen) (hm:Md (fun k=>k=H.mt) w w') (E:di w'.heap H.mt (k5 .u16) f) (O:F'.rules=F.rules) (hd:∀ x:Nat,x≠0→(f<|bo x).getD (.int .i64 0)= .int .i64 ((if eV F' x=true then 1 else 0:Nat):Nat)):dI w' B H F' R rows ln seen:=by
 obtain ⟨g,J,_⟩:=h.tm;obtain ⟨f0,G,I⟩:=h.sm;have A:TF w [1] (fun k=>k=H.mt):=TF.eq (eR J) aB;exact ⟨hm.iT A h.cells aB,h.rws.md hm (fun k hk cur z C=>A.no (dN C) aB hk),h.rt.md hm (fun k hk cur z C=>A.no (dN C) aB hk),⟨f0,G.md hm h.ne.1,I⟩,⟨f,E,hd⟩,O ▸ cQ h.on hm A aB,h.lo,h.ne⟩
theorem ei.xH {w w':World} {B:Nat} {H:dD} {F A:aU} {V:fH} {R:iO} {rows:List Rw} {ln:Nat} {seen:List Tx} (h:ei w B H.fb H.mc A V) (C:dI w B H F R rows ln seen) (hm:Md (fun k=>k=H.mt) w w'):ei w' B H.fb H.mc A V:=by
 obtain ⟨g,E,_⟩:=C.tm;exact h.md (L:= [1]) hm (TF.eq (eR E) aB) aB fun h=>C.ne.2.2 h.symm
theorem fW.fb {w w':World} {B:Nat} {H:dD} {C:aU} {V:fH} (A:ei w B H.fb H.mc C V) (hm:Md (fun k=>k=H.fb) w w'):fW B H w w':=Mw.of hm (TF.eq (dN A.cells) aB) fun k hk=>hk ▸ A.lo.1
theorem fW.rb {w w':World} {B:Nat} {H:dD} {F:aU} {R:iO} {rows:List Rw} {ln:Nat} {seen:List Tx} (A:dI w B H F R rows ln seen) (hm:Md (fun k=>k=H.rb) w w'):fW B H w w':=Mw.of hm (TF.eq (dN A.cells) aB) fun k hk=>hk ▸ A.lo.1
theorem fW.mt {w w':World} {B:Nat} {H:dD} {F:aU} {R:iO} {rows:List Rw} {ln:Nat} {seen:List Tx} (A:dI w B H F R rows ln seen) (hm:Md (fun k=>k=H.mt) w w'):fW B H w w':=hm.mono fun k _ hk=>⟨hk ▸ A.lo.2.2,.inr<|.inl hk⟩
def jZ (B:Nat) (H:dD) (seen:List Tx) (X:Except (Nat×Nat) (aU×List Rw)) (w:World) (v:Value) (w':World):Prop :=v= .tuple #[]∧∃ F' rows' ln',X= .ok (F',rows')∧St w' B H F' rows' ln' seen∧fW B H w w'
def jY (B:Nat) (H:dD) (X:Except (Nat×Nat) (aU×List Rw)) (w:World) (c:List PanicEntry) (w':World):Prop := ∃ l e,X= .error (l,e)∧c=jS 45 l (e:Nat)∧fW B H w w'
def kW (F:aU) (seen:List Tx):Prop := ∀ k∈ez,k∉seen→F.sp.getD (ez.idxOf k) 0=0
theorem Vv {F:aU} {i x:Nat} (hi:i < F.sp.length) (A:F.sp.getD i 0=0) (y:Nat) (G:y≠0):eV {F with sp:=F.sp.set i x} y=(decide (y=x) || eV F y):=by
 unfold eV;show (decide (y∈F.sp.set i x) || _)=_;rw [← Bool.or_assoc];congr 1;rw [← Bool.decide_or,decide_eq_decide];constructor
 · intro h;rcases GN h with h | h
   · exact .inr h
   · exact .inl h
 · rintro (h | h)
   · subst h; exact List.mem_set hi _
   · obtain ⟨j,E⟩:=tZ h;by_cases C:i=j
     · subst C;rw [cX,E] at A;exact absurd A G
     · exact gC (i:=j)<|by rw [lK,if_neg C]; exact E
theorem Tg.xI {w:World} {B e E n cp b:Nat} {a:Option Addr} {xs:List Value} {cs:Array Value} {z:Nat×Nat} (h:Tg w B e n (.slice a n cp) xs) (V:xs≠[]) (A:w.heap[b]? =some (.cells cs E z)) (J:e≠E):¬(bk a=b):=by
 obtain ⟨Y,Z,O,_,I⟩:=h;cases O;rcases I with rfl | ⟨C,cur,z2,rfl,_,G,_⟩
 · exact absurd aa V
 · rintro rfl;rw [show (bk<|some ⟨C,0,none⟩)=C from rfl] at A;rw [G] at A;simp only [gD,yl] at A;exact J A.2.1
theorem WN {F:aU} {V:fH} {mc i o x:Nat} (h5:F.sp.length=5) (hi:i < 5) (A:o=3 +i):(qa F V mc).set o (bo x)=qa {F with sp:=F.sp.set i x} V mc:=by
 subst A;obtain ⟨k,cs,tr,sp,le,re,al,cl,ru⟩:=F
 match sp,h5 with
 | [a,b,c,d,e],_=>
   match i,hi with
   | 0,_=>rfl
   | 1,_=>rfl
   | 2,_=>rfl
   | 3,_=>rfl
   | 4,_=>rfl
theorem Jk (b:Bool):decide (((if b=true then 1 else 0:Nat):Int)=0)= !b:=by cases b <;> rfl
theorem OD {x y:Nat} (h:bo x=bo y):x=y:=by unfold bo at h; injection h with _ h; omega
theorem Oo {F F':aU} {f:Value→Option Value} {x:Nat} (hd:eV F x=false) (E:∀ y:Nat,y≠0→(f<|bo y).getD (.int .i64 0)= .int .i64 ((if eV F y=true then 1 else 0:Nat):Nat)) (C:∀ y,y≠0→eV F' y=(decide (y=x) || eV F y)) (y:Nat) (A:y≠0):(bU f (bo x) (.int .i64 (1:Nat))<|bo y).getD (.int .i64 0)= .int .i64 ((if eV F' y=true then 1 else 0:Nat):Nat):=by
 rw [C y A];by_cases h:y=x
 · subst h; rw [oI]; simp
 · rw [mm (fun h2=>h<|OD h2),E y A]; simp [h]
theorem iY {G:Nat→Prop} {w w':World} (h:Md G w.drew w'):Md G w w':=⟨h.os,h.output,h.size,h.dE⟩
theorem eL.get {w:World} {B e i:Nat} {vs:List Value} {A:List (List Nat)} (h:eL w B e vs A) (hi:i < A.length):∃ v,vs[i]? =some v∧Tg w B e (A.getD i []).length v ((A.getD i []).map bo):=by
 have h1:i < vs.length:=by rw [h.1]; exact hi
 refine ⟨vs[i],cx h1,h.2 i _ _ (cx h1) ?_⟩;rw [cX,cx hi]; rfl
theorem Tg.vg {w:World} {B e n cp:Nat} {a:Option Addr} {xs:List Value} (h:Tg w B e n (.slice a n cp) xs) (E:xs.length=n) (A:a=none):n=0:=by
 obtain ⟨I,O,G,_,C⟩:=h;cases G;rcases C with rfl | ⟨J,cur,z2,h2,_⟩
 · exact E.symm
 · rw [A] at h2; cases h2
theorem Tg.Mr {G:Nat→Prop} {w w':World} {B e n:Nat} {v:Value} {xs:List Value} (h:Tg w B e n v xs) (hm:Md G w w') (E:∀ k,G k→k < B):Tg w' B e n v xs:=by
 obtain ⟨a,cp,rfl,A,h | ⟨b,cur,z,rfl,I,C,J⟩⟩:=h
 · exact ⟨a,cp,aa,A,.inl h⟩
 · exact ⟨_,cp,aa,A,.inr ⟨b,cur,z,aa,I,by rw [hm.dE b (dO.1 C).1 (fun hk=>by have :=E b hk; omega)]; exact C,J⟩⟩
end Go.Hb.eT
end
