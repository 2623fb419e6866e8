/-
  Walks and plain laws that the law rests on, laid together. No conditions but those that each theorem names.
-/
import Derived.Test.YtkiemnnhcilhpaaGreatDoorMnDicOrder1
set_option linter.unusedVariables false
section
namespace Go.Hb
abbrev Tx:Type :=List UInt8
structure db where
 flag:Nat
 kind:Nat
 ic:Bool
 first :Nat
 count:Nat
structure eX where
 kind:Nat
 flag:Nat
 ic:Bool
 strip:Tx
 add:Tx
 cond:Tx
 next :List Nat
 line:Nat
structure aM where
 kind:Nat
 mL:Tx
 tr:Tx
 sp:List Nat
 least:Nat
 bW:List (Tx×Tx)
 aliases:List (List Nat)
 bf:List db
 rules:List eX
def fu:Tx:= [70,76,65,71]
def fD:Tx:= [83,69,84]
def fL:Tx:= [84,82,89]
def fY:Tx:= [78,69,69,68,65,70,70,73,88]
def gj:Tx:= [70,79,82,66,73,68,68,69,78,87,79,82,68]
def gz:Tx:= [75,69,69,80,67,65,83,69]
def gK:Tx:= [67,79,77,80,79,85,78,68,70,76,65,71]
def gX:Tx:= [78,79,83,85,71,71,69,83,84]
def iq:Tx:= [67,79,77,80,79,85,78,68,77,73,78]
def fK:Tx:= [82,69,80]
def fq:Tx:= [65,70]
def fw:Tx:= [80,70,88]
def cg:Tx:= [83,70,88]
def q6:Tx:= [115,104,111,114,116]
def q4:Tx:= [108,111,110,103]
def q5:Tx:= [110,117,109]
def dU:List Tx:= [fY,gj,gz,gK,gX]
def width (k:Tx):Nat:=if k∈dU∨k=fu∨k=fD∨k=fL∨k=iq∨k=fK∨k=fq then 2 else if k=fw∨k=cg then 4 else 0
def fg (w:Tx):Nat:=if w= []∨eF w=false then 21 else if 32 < w.length then 22 else 0
def ek (none:Bool) (fd:Tx):Except Nat Tx:=
 if none=true∧fd= [48] then .ok []
 else if (a8 fd).2.2.2≠0 then .error (a8 fd).2.2.2
 else if (a8 fd).2.2.1=true then .error 114
 else if fg (a8 fd).1≠0 then .error (fg (a8 fd).1)
 else .ok (a8 fd).1
def dP (cs:List db) (x:Nat):Option db:=cs.find? fun c=>decide (c.flag=x)
def c9 (f:aM) (x:Nat):Bool:=decide (x∈f.sp) || (dP f.bf x).isSome
noncomputable def fp (f:aM) (s:Tx):Except Nat Nat:=
 if (e6 f.kind s).2≠0 then .error (e6 f.kind s).2 else if c9 f (e6 f.kind s).1=true then .error 115 else .ok (e6 f.kind s).1
noncomputable def iO (kind:Nat) (s:Tx):Except Nat (List Nat):=if (dH kind s).2≠0 then .error (dH kind s).2 else .ok (dH kind s).1
noncomputable def cR (s:Tx) (most:Int):Except Nat Nat:=if (dI s most).2≠0 then .error 13 else .ok (dI s most).1
noncomputable def eh (kind:Nat) (al:List (List Nat)) (s:Tx):Except Nat (List Nat):=
 if al= [] then iO kind s
 else match cR s al.length with
  | .error _=> .error 13
  | .ok n=>if n=0 then .error 13 else .ok (al.getD (n - 1) [])
noncomputable def jF (kind:Nat) (al:List (List Nat)) (a:Nat) (r:iH):Except Nat (List Nat):=
 if r.2.2.1=true then (if a=1 then .error 118 else eh kind al r.2.1) else .ok []
def js (row:List Tx):Except Nat Tx:=
 if row.length=5 then (if eF (row.getD 4 [])=false then .error 21 else if (dT (row.getD 4 [])).2≠0 then .error (dT (row.getD 4 [])).2 else .ok (l9 (dT (row.getD 4 [])).1)) else .ok [46]
def jm (r:iH):Except Nat Tx:=if r.2.2.2≠0 then .error r.2.2.2 else if r.1= [48] then .ok [] else if fg r.1≠0 then .error (fg r.1) else .ok r.1
noncomputable def iw (kind:Nat) (al:List (List Nat)) (c:db) (ln:Nat) (row:List Tx):Except Nat eX:=
 if row.length≠4∧row.length≠5 then .error 111
 else match ek true (row.getD 2 []) with
  | .error e=> .error e
  | .ok st=>match jm (a8 (row.getD 3 [])) with
    | .error e=> .error e
    | .ok ad=>match jF kind al c.kind (a8 (row.getD 3 [])) with
      | .error e=> .error e
      | .ok nx=>match js row with
        | .error e=> .error e
        | .ok cd=> .ok ⟨c.kind,c.flag,c.ic,st,ad,cd,nx,ln⟩
def iR (ln:Nat) (row:List Tx):Except Nat (Tx×Tx):=
 if row.length≠3 then .error 111
 else match ek false (row.getD 1 []) with
  | .error e=> .error e
  | .ok a=>match ek true (row.getD 2 []) with
    | .error e=> .error e
    | .ok b=> .ok (a,b)
noncomputable def iY (kind:Nat) (ln:Nat) (row:List Tx):Except Nat (List Nat):=if row.length≠2 then .error 111 else iO kind (row.getD 1 [])
def group {α:Type} (hd:List Tx) (rd:Nat→List Tx→Except Nat α) (eof:Nat):Nat→List Rw→Except (Nat×Nat) (List α×List Rw)
 | 0,rows=> .ok ([],rows)
 | _+1,[]=> .error (eof,116)
 | n+1,(ln,row)::rows=>if row.take hd.length≠hd then .error (ln,116) else match rd ln row with
   | .error e=> .error (ln,e)
   | .ok x=>match group hd rd eof n rows with
     | .error e=> .error e
     | .ok r=> .ok (x::r.1,r.2)
def gM (s:Tx):Nat:=if s=q6 then 1 else if s=q4 then 2 else if s=q5 then 3 else 0
def ordered (hs:List Tx):Bool:= !hs.any fun h=>decide (h∈dU∨h=fq∨h=fw∨h=cg)
noncomputable def eZ (eof:Nat) (f:aM) (rows:List Rw) (ln:Nat) (row:List Tx):Except (Nat×Nat) (aM×List Rw):=
 match fp f (row.getD 1 []) with
 | .error e=> .error (ln,e)
 | .ok x=>if row.getD 2 []≠[89]∧row.getD 2 []≠[78] then .error (ln,114)
   else match cR (row.getD 3 []) 1024 with
    | .error e=> .error (ln,e)
    | .ok n=>if 1024 < f.rules.length+n then .error (ln,117)
      else match group [row.getD 0 [],row.getD 1 []] (iw f.kind f.aliases ⟨x,if row.getD 0 []=cg then 2 else 1,decide (row.getD 2 []= [89]),f.rules.length,n⟩) eof n rows with
       | .error e=> .error e
       | .ok r=> .ok ({f with bf:=f.bf++ [⟨x,if row.getD 0 []=cg then 2 else 1,decide (row.getD 2 []= [89]),f.rules.length,n⟩],rules:=f.rules++r.1},r.2)
noncomputable def gD (f:aM) (rows:List Rw) (ln:Nat) (row:List Tx):Except (Nat×Nat) (aM×List Rw):=
 match fp f (row.getD 1 []) with
 | .error e=> .error (ln,e)
 | .ok x=> .ok ({f with sp:=f.sp.set (dU.idxOf (row.getD 0 [])) x},rows)
def gY (f:aM) (hs:List Tx) (rows:List Rw) (ln:Nat) (row:List Tx):Except (Nat×Nat) (aM×List Rw):=
 if ordered hs=false then .error (ln,113) else if gM (row.getD 1 [])=0 then .error (ln,114) else .ok ({f with kind:=gM (row.getD 1 [])},rows)
def jL (f:aM) (rows:List Rw) (ln:Nat) (row:List Tx):Except (Nat×Nat) (aM×List Rw):=
 if eF (row.getD 1 [])=false then .error (ln,21) else .ok ({f with mL:=row.getD 1 []},rows)
def jM (f:aM) (rows:List Rw) (ln:Nat) (row:List Tx):Except (Nat×Nat) (aM×List Rw):=
 if (letE (row.getD 1 [])).2≠0 then .error (ln,(letE (row.getD 1 [])).2) else .ok ({f with tr:=(letE (row.getD 1 [])).1},rows)
noncomputable def g5 (f:aM) (rows:List Rw) (ln:Nat) (row:List Tx):Except (Nat×Nat) (aM×List Rw):=
 match cR (row.getD 1 []) 64 with
 | .error e=> .error (ln,e)
 | .ok n=>if n=0 then .error (ln,13) else .ok ({f with least:=n},rows)
noncomputable def g6 (eof:Nat) (f:aM) (rows:List Rw) (ln:Nat) (row:List Tx):Except (Nat×Nat) (aM×List Rw):=
 match cR (row.getD 1 []) 256 with
 | .error e=> .error (ln,e)
 | .ok n=>match group [fK] iR eof n rows with
   | .error e=> .error e
   | .ok r=> .ok ({f with bW:=f.bW++r.1},r.2)
noncomputable def gH (eof:Nat) (f:aM) (hs:List Tx) (rows:List Rw) (ln:Nat) (row:List Tx):Except (Nat×Nat) (aM×List Rw):=
 if fw∈hs∨cg∈hs then .error (ln,113)
 else match cR (row.getD 1 []) 1024 with
  | .error e=> .error (ln,e)
  | .ok n=>match group [fq] (iY f.kind) eof n rows with
    | .error e=> .error e
    | .ok r=> .ok ({f with aliases:=f.aliases++r.1},r.2)
noncomputable def bB (eof:Nat) (f:aM) (hs:List Tx) (rows:List Rw) (ln:Nat) (row:List Tx):Except (Nat×Nat) (aM×List Rw):=
 if row.getD 0 []∈dU then gD f rows ln row
 else if row.getD 0 []=fu then gY f hs rows ln row
 else if row.getD 0 []=fD then jL f rows ln row
 else if row.getD 0 []=fL then jM f rows ln row
 else if row.getD 0 []=iq then g5 f rows ln row
 else if row.getD 0 []=fK then g6 eof f rows ln row
 else if row.getD 0 []=fq then gH eof f hs rows ln row
 else eZ eof f rows ln row
noncomputable def eJ (eof:Nat):Nat→aM→List Tx→List Rw→Except (Nat×Nat) aM
 | 0,f,_,rows=>if rows= [] then .ok f else .error (0,0)
 | _+1,f,_,[]=> .ok f
 | k+1,f,hs,(ln,row)::rows=>
   if width (row.getD 0 [])=0 then .error (ln,110)
   else if row.length≠width (row.getD 0 []) then .error (ln,111)
   else if width (row.getD 0 [])=2∧row.getD 0 []∈hs then .error (ln,112)
   else match bB eof f hs rows ln row with
    | .error e=> .error e
    | .ok r=>eJ eof k r.1 (hs++ [row.getD 0 []]) r.2
def iP (f:aM) (x:Nat):Bool:=decide (x=f.sp.getD 0 0) || (match dP f.bf x with | some c=>decide (c.kind=2) | none=>false)
def jn (f:aM) (r:eX):Bool:=r.next.any fun x=> !iP f x
def fS:aM:=⟨1,[],[],[0,0,0,0,0],3,[],[],[],[]⟩
noncomputable def eM (t:Tx):Except (Nat×Nat) aM:=
 if 65536 < t.length then .error (0,10)
 else match eJ ((a7 t).length+1) (bY t).length fS [] (bY t) with
  | .error e=> .error e
  | .ok f=>match f.rules.find? (jn f) with
    | some r=> .error (r.line,118)
    | none=> .ok f
theorem qT {α:Type} {hd:List Tx} {rd:Nat→List Tx→Except Nat α} {eof:Nat} :∀ (n:Nat) (rows:List Rw) (r:List α×List Rw),group hd rd eof n rows= .ok r→r.2.length≤rows.length∧r.1.length=n∧∀ q∈r.2,q∈rows:=by
 intro n
 induction n with
 | zero=>intro rows r h; simp only [group,Except.ok.injEq] at h; subst h; exact ⟨Nat.le_refl _,rfl,fun q a=>a⟩
 | succ n c=>
   intro rows r h
   cases rows with
   | nil=>simp [group] at h
   | cons q rows=>
     obtain ⟨ln,row⟩:=q
     simp only [group] at h
     split at h
     · cases h
     · cases hr:rd ln row with
       | error e=>rw [hr] at h; cases h
       | ok x=>
         rw [hr] at h
         simp only at h
         cases hg:group hd rd eof n rows with
         | error e=>rw [hg] at h; cases h
         | ok i=>
           rw [hg] at h
           simp only [Except.ok.injEq] at h
           subst h
           have :=c rows i hg
           refine ⟨by simp only [List.length_cons]; omega,by simp only [List.length_cons]; omega,fun q a=>List.mem_cons_of_mem _ (this.2.2 q a)⟩
def eD {α:Type} (hd:List Tx) (rd:Nat→List Tx→Except Nat α) (eof:Nat) (T:Except (Nat×Nat) (List α×List Rw)) (xs:List α) (n:Nat) (rows:List Rw):Prop :=
 T=match group hd rd eof n rows with
  | .error e=> .error e
  | .ok r=> .ok (xs++r.1,r.2)
theorem eD.start {α:Type} {hd:List Tx} {rd:Nat→List Tx→Except Nat α} {eof n:Nat} {rows:List Rw} :eD hd rd eof (group hd rd eof n rows) [] n rows:=by
 unfold eD; cases group hd rd eof n rows <;> rfl
section
variable {α:Type} {hd:List Tx} {rd:Nat→List Tx→Except Nat α} {eof n:Nat} {T:Except (Nat×Nat) (List α×List Rw)} {xs:List α} {rows:List Rw} {ln:Nat} {row:List Tx}
theorem eD.ends (h:eD hd rd eof T xs n []) (hn:0 < n):T= .error (eof,116):=by
 obtain ⟨m,rfl⟩:∃ m,n=m+1:=⟨n - 1,aa⟩
 exact h
theorem eD.other (h:eD hd rd eof T xs n ((ln,row)::rows)) (hn:0 < n) (a:row.take hd.length≠hd):T= .error (ln,116):=by
 obtain ⟨m,rfl⟩:∃ m,n=m+1:=⟨n - 1,aa⟩
 unfold eD at h; simp only [group] at h; rw [if_pos a] at h; exact h
theorem eD.bad {e:Nat} (h:eD hd rd eof T xs n ((ln,row)::rows)) (hn:0 < n) (a:row.take hd.length=hd) (he:rd ln row= .error e):T= .error (ln,e):=by
 obtain ⟨m,rfl⟩:∃ m,n=m+1:=⟨n - 1,aa⟩
 unfold eD at h; simp only [group] at h; rw [if_neg (fun h2=>h2 a),he] at h; exact h
theorem eD.step {x:α} (h:eD hd rd eof T xs n ((ln,row)::rows)) (hn:0 < n) (a:row.take hd.length=hd) (he:rd ln row= .ok x):eD hd rd eof T (xs++ [x]) (n - 1) rows:=by
 obtain ⟨m,rfl⟩:∃ m,n=m+1:=⟨n - 1,aa⟩
 unfold eD at h ⊢; simp only [group] at h; rw [if_neg (fun h2=>h2 a),he] at h
 simp only [Nat.add_sub_cancel] at h ⊢
 rw [h]
 cases group hd rd eof m rows with
 | error e=>rfl
 | ok r=>simp only [List.append_assoc]; rfl
theorem eD.done (h:eD hd rd eof T xs 0 rows):T= .ok (xs,rows):=by
 unfold eD at h; simpa [group] using h
end
end Go.Hb
end
section
set_option linter.unusedSimpArgs false
namespace Go.Hb
open Go.RowKit
open Classical
structure jk (P:Program) (k:TypeId) (isK:Value→Prop):Prop where
 key:nN P k isK
 stays:∀ w v,isK v→(Instr.keyThatStays v v).run P w= .ok v w
def eQ (v:Value):Prop := ∃ s:List UInt8,v=str s
def kg (q:IntKind) (v:Value):Prop := ∃ a:Int,v= .int q a
theorem uH {d:TypeDesc} {isK:Value→Prop} (hs:∀ x y,isK x→isK y→∃ a,Instr.sameNow d x y=some a∧(a=true↔x=y)) {x:Value} (q:isK x):∀ (es:List MapEntry) (i:Nat),(∀ e∈es,isK e.key)→
 (Instr.findNow d x es i=some none∧∀ e∈es,e.key≠x)∨∃ j e,Instr.findNow d x es i=some (some (i+j,e.val))∧es[j]? =some e∧e.key=x
 | [],i,_=> .inl ⟨rfl,fun _ h=>by simp at h⟩
 | e::es,i,h=>by
   obtain ⟨a,h1,h2⟩:=hs x e.key q (h e (by simp))
   cases a with
   | true =>exact .inr ⟨0,e,by simp [Instr.findNow,h1],rfl,(h2.1 rfl).symm⟩
   | false =>
     have A:e.key≠x:=fun s=>by cases h2.2 s.symm
     rcases uH hs q es (i+1) (fun e he=>h e (by simp [he])) with ⟨h3,h4⟩ | ⟨j,c,h3,h4,h5⟩
     · refine .inl ⟨by simp [Instr.findNow,h1,h3],fun c p=> ?_⟩
       rcases List.mem_cons.1 p with rfl | p
       · exact A
       · exact h4 c p
     · refine .inr ⟨j+1,c,?_,h4,h5⟩
       simp only [Instr.findNow,h1,h3]; rw [show i+1 +j=i+(j+1) from by omega]
theorem vH {P:Program} {k:TypeId} {d:TypeDesc} {isK:Value→Prop} (hk:P.underlying k=some d) (hs:∀ x y,isK x→isK y→∃ a,Instr.sameNow d x y=some a∧(a=true↔x=y)) (c:∀ em w v,isK v→(Instr.checkKey em 10000 k v).run P w= .ok () w):nN P k isK where
 check:=c
 find w x es hx hes:=by
  rcases uH hs hx es 0 hes with ⟨h1,h2⟩ | ⟨j,e,h1,h2,h3⟩
  · exact .inl ⟨by simp [Instr.findKey,cG hk,h1],h2⟩
  · exact .inr ⟨j,e,by simp [Instr.findKey,cG hk,h1],h2,h3⟩
theorem sQ (a b:ByteArray):(a==b)=decide (a=b):=by
 rw [Bool.eq_iff_iff,decide_eq_true_iff]
 show ((a.data==b.data)=true)↔_
 rw [beq_iff_eq]
 exact ⟨fun h=>by cases a; cases b; cases h; rfl,fun h=>by rw [h]⟩
theorem Eh {P:Program} {k:TypeId} (hk:P.underlying k=some .string):jk P k eQ where
 key:=vH hk (by
  rintro _ _ ⟨a,rfl⟩ ⟨b,rfl⟩
  refine ⟨_,U,?_⟩
  rw [sQ,decide_eq_true_iff]
  constructor
  · intro h; unfold str; rw [h]
  · intro h; unfold str at h; cases h; rfl) (by rintro em w _ ⟨a,rfl⟩; exact At (n:=9999) hk w)
 stays w v hv:=by obtain ⟨a,rfl⟩:=hv; simp [Instr.keyThatStays,Instr.sameBits,str,sQ]
theorem As {P:Program} {k:TypeId} {q r:IntKind} {em:Bool} {n:Nat} {a:Int} (hk:P.underlying k=some (.int q)) (w:World):(Instr.checkKey em (n+1) k (.int r a)).run P w= .ok () w:=by
 simp only [Instr.checkKey,Sem.run_bind,cG hk,Result.andThen_ok,Sem.run_pure]
theorem Eg {P:Program} {k:TypeId} {q r:IntKind} (hk:P.underlying k=some (.int q)):jk P k (kg r) where
 key:=vH hk (by
  rintro _ _ ⟨a,rfl⟩ ⟨b,rfl⟩
  refine ⟨decide (a=b),by simp [Instr.sameNow]; rfl,?_⟩
  rw [decide_eq_true_iff]
  exact ⟨fun h=>by rw [h],fun h=>by cases h; rfl⟩) (by rintro em w _ ⟨a,rfl⟩; exact As (n:=9999) hk w)
 stays w v hv:=by obtain ⟨a,rfl⟩:=hv; simp [Instr.keyThatStays,Instr.sameBits]
def bz (h:Array Obj) (b:Nat) (isK:Value→Prop) (f:Value→Option Value):Prop :=
 ∃ kvs,kT h b kvs∧(∀ p∈kvs,isK p.1)∧(kvs.map Prod.fst).Nodup∧∀ k v,f k=some v↔(k,v)∈kvs
theorem bz.md {F:Nat→Prop} {w w':World} {b:Nat} {isK:Value→Prop} {f:Value→Option Value} (h:bz w.heap b isK f) (hm:Md F w w') (a:¬F b):bz w'.heap b isK f:=
 let ⟨kvs,h1,h2⟩:=h; ⟨kvs,h1.md hm a,h2⟩
theorem bz.wk {w w':World} {b:Nat} {isK:Value→Prop} {f:Value→Option Value} (h:bz w.heap b isK f) (hm:Wk w w'):bz w'.heap b isK f:=h.md hm id
theorem bz.nil {h:Array Obj} {b:Nat} {isK:Value→Prop} {c:Nat} (hm:h[b]? =some (.map #[] c)):bz h b isK fun _=>none:=
 ⟨[],⟨_,_,hm,rfl⟩,fun p hp=>(by simp at hp),(by simp),fun k v=>(by simp)⟩
theorem bz.isMap {h:Array Obj} {b:Nat} {isK:Value→Prop} {f:Value→Option Value} (hm:bz h b isK f):∃ es c,h[b]? =some (.map es c):=let ⟨_,⟨es,c,h1,_⟩,_⟩:=hm; ⟨es,c,h1⟩
theorem bz.ki {h:Array Obj} {b:Nat} {isK:Value→Prop} {f:Value→Option Value} (hm:bz h b isK f) {cur:Array Value} {e:TypeId} {z:Nat×Nat} :h[b]?≠some (.cells cur e z):=by
 obtain ⟨es,c,h1⟩:=hm.isMap; rw [h1]; intro h; cases h
noncomputable def a9 (f:Value→Option Value) (k v:Value):Value→Option Value:=fun q=>if q=k then some v else f q
theorem ni (f:Value→Option Value) (k v:Value):a9 f k v k=some v:=if_pos rfl
theorem l8 {f:Value→Option Value} {k v q:Value} (h:q≠k):a9 f k v q=f q:=if_neg h
section
variable {P:Program} {N:Fm} {σ:Nat→Value} {w:World} {dst:Option Nat} {ty:TypeId} {pos :String} {af:Array Edge} {g:Option (Nat×Bool)} {x y z:Operand} {K:(Nat→Value)→World→Prop}
variable {t k e:TypeId} {isK:Value→Prop} {b:Nat} {f:Value→Option Value} {kx v zv:Value}
theorem vQ {ok:Bool} (i:P.underlying t=some (.map k e)) (q:zeroV P e=some zv) (c:jk P k isK) (hm:bz w.heap b isK f) (j:ev N σ x= .map (some b)) (p:ev N σ y=kx) (hi:isK kx):
 (execOp (ev N σ) ⟨dst,.lookup t x y ok,ty,pos,af,g⟩).run P w= .ok (.value (if ok then .tuple #[(f kx).getD zv,.bool (f kx).isSome] else (f kx).getD zv)) w:=by
 obtain ⟨kvs,h1,h2,h3,h4⟩:=hm
 cases hf:f kx with
 | none=>exact EE i q c.key h1 h2 j p hi (fun v a=>by rw [← h4] at a; rw [hf] at a; cases a)
 | some v=>exact ED i c.key h1 h2 j p hi h3 ((h4 kx v).1 hf)
theorem jy (c:P.underlying t=some (.map k e)) (q:zeroV P e=some zv) (a:jk P k isK) (hm:bz w.heap b isK f) (j:ev N σ x= .map (some b)) (p:ev N σ y=kx) (hi:isK kx) (i:(f kx).getD zv=v):
 (execOp (ev N σ) ⟨dst,.lookup t x y false,ty,pos,af,g⟩).run P w= .ok (.value v) w:=by
 rw [vQ c q a hm j p hi,i]; rfl
theorem vR {ob:Bool} (i:P.underlying t=some (.map k e)) (s:zeroV P e=some zv) (a:jk P k isK) (hm:bz w.heap b isK f) (p:ev N σ x= .map (some b)) (q:ev N σ y=kx) (hi:isK kx) (j:(f kx).getD zv=v) (c:(f kx).isSome=ob):
 (execOp (ev N σ) ⟨dst,.lookup t x y true,ty,pos,af,g⟩).run P w= .ok (.value (.tuple #[v,.bool ob])) w:=by
 rw [vQ i s a hm p q hi,j,c]; rfl
theorem xX (ac:P.underlying t=some (.map k e)) (J:jk P k isK) (hm:bz w.heap b isK f) (hi:isK kx):
 ∃ w',(Instr.mapUpdate t (.map (some b)) kx v).run P w= .ok () w'∧Md (fun j=>j=b) w w'∧bz w'.heap b isK (a9 f kx v):=by
 obtain ⟨kvs,⟨es,c,I,he⟩,h2,h3,h4⟩:=hm
 have V:=(Array.getElem?_eq_some_iff.1 I).1
 rcases J.key.find w kx es.toList hi (qA he h2) with ⟨h1,al⟩ | ⟨j,O,h1,C,h5⟩
 · have ab:∀ u,(kx,u)∉kvs:=fun u hu=>by
    rw [← he] at hu
    obtain ⟨ad,ai,ae⟩:=List.mem_map.1 hu
    cases ae
    exact al ad ai U
   refine ⟨{w with heap:=w.heap.setIfInBounds b (.map (es.push {key:=kx,val:=v,born:=c}) (c+1))},by simp [Instr.mapUpdate,cG ac,run_getObj_map I,J.key.check _ w kx hi,h1,setObj,Sem.run,I],⟨U,U,by simp,fun i _ E=>by simp only; rw [Array.getElem?_setIfInBounds_ne (fun e=>E e.symm)]⟩,kvs++ [(kx,v)],⟨_,_,by simp only; rw [Array.getElem?_setIfInBounds_self_of_lt V],by simp [he]⟩,?_,?_,?_⟩
   · intro p hp
     rcases List.mem_append.1 hp with hp | hp
     · exact h2 p hp
     · rw [List.mem_singleton.1 hp]; exact hi
   · rw [List.map_append,List.nodup_append]
     refine ⟨h3,by simp,?_⟩
     intro a ag an Y ah
     simp at Y
     subst ah Y
     obtain ⟨p,hp,am⟩:=List.mem_map.1 ag
     exact ab p.2 (by rw [← am]; exact hp)
   · intro q u
     unfold a9
     rw [List.mem_append,List.mem_singleton]
     by_cases A:q=kx
     · subst A
       rw [if_pos rfl]
       constructor
       · intro h; cases h; exact .inr rfl
       · rintro (h | h)
         · exact absurd h (ab u)
         · cases h; rfl
     · rw [if_neg A,h4]
       constructor
       · exact .inl
       · rintro (h | h)
         · exact h
         · cases h; exact absurd rfl A
 · have ao:j < es.size:=by have :=(List.getElem?_eq_some_iff.1 C).1; simpa using this
   have Z:es[j]? =some O:=by simpa using C
   refine ⟨{w with heap:=w.heap.setIfInBounds b (.map (es.modify j fun e=> {e with key:=kx,val:=v}) c)},?_,⟨U,U,by simp,fun i _ E=>by simp only; rw [Array.getElem?_setIfInBounds_ne (fun e=>E e.symm)]⟩,kvs.set j (kx,v),⟨_,_,by simp only; rw [Array.getElem?_setIfInBounds_self_of_lt V],?_⟩,?_,?_,?_⟩
   · have hs:=J.stays w kx hi
     simp [Instr.mapUpdate,cG ac,run_getObj_map I,J.key.check _ w kx hi,h1,Z,h5,hs,setObj,Sem.run,I]
   · rw [← he]
     apply List.ext_getElem?
     intro i
     simp only [Array.toList_modify,List.getElem?_map,List.getElem?_modify,List.getElem?_set,List.length_map]
     by_cases G:j=i
     · subst G; rw [C]; simp; have :=(List.getElem?_eq_some_iff.1 C).1; simpa using this
     · simp [G]
   · intro p hp
     rcases List.mem_or_eq_of_mem_set hp with hp | hp
     · exact h2 p hp
     · rw [hp]; exact hi
   · have :(kvs.set j (kx,v)).map Prod.fst=kvs.map Prod.fst:=by
      apply List.ext_getElem?
      intro i
      simp only [List.getElem?_map,List.getElem?_set]
      by_cases G:j=i
      · subst G
        rw [← he]; simp only [List.getElem?_map,C,List.length_map]
        have :=(List.getElem?_eq_some_iff.1 C).1
        simp [this,h5]
        simpa using this
      · simp [G]
     rw [this]; exact h3
   · intro q u
     have M:kvs[j]? =some (kx,O.val):=by rw [← he]; simp [C,h5,Z]
     have aa:=(List.getElem?_eq_some_iff.1 M).1
     have ak:(kx,v)∈kvs.set j (kx,v):=List.mem_of_getElem? (i:=j) (by rw [List.getElem?_set,if_pos rfl,if_pos aa])
     unfold a9
     by_cases A:q=kx
     · subst A
       rw [if_pos rfl]
       constructor
       · intro h; cases h; exact ak
       · intro h
         obtain ⟨i,s⟩:=List.getElem?_of_mem h
         rw [List.getElem?_set] at s
         split at s
         · rename_i aj
           subst aj
           cases s; rfl
         · rename_i E
           exfalso
           exact E ((List.getElem?_inj (i:=j) (j:=i) (by simpa using aa) h3).1 (by simp [M,s]))
     · rw [if_neg A,h4]
       constructor
       · intro h
         obtain ⟨i,s⟩:=List.getElem?_of_mem h
         have E:j≠i:=by rintro rfl; rw [M] at s; cases s; exact A rfl
         exact List.mem_of_getElem? (i:=i) (by rw [List.getElem?_set,if_neg E]; exact s)
       · intro h
         rcases List.mem_or_eq_of_mem_set h with h | h
         · exact h
         · cases h; exact absurd rfl A
theorem ml (i:P.underlying t=some (.map k e)) (a:jk P k isK) (hm:bz w.heap b isK f) (p:ev N σ x= .map (some b)) (q:ev N σ y=kx) (s:ev N σ z=v) (hi:isK kx)
 (A:∀ w',Md (fun j=>j=b) w w'→bz w'.heap b isK (a9 f kx v)→K σ w'):bP P N ⟨none,.mapUpdate t x y z,ty,pos,af,g⟩ σ w K:=by
 obtain ⟨w',h1,h2,h3⟩:=xX (v:=v) i a hm hi
 have c:(execOp (ev N σ) ⟨none,.mapUpdate t x y z,ty,pos,af,g⟩).run P w= .ok .skip w':=by
  simp [execOp,p,q,s,h1]
 unfold bP Oper.wp
 rw [eL,c]
 exact ⟨σ,U,A w' h2 h3⟩
theorem im (i:P.underlying t=some (.map k e)) (a:jk P k isK) (hm:bz w.heap b isK f) (p:ev N σ x= .map (some b)) (q:ev N σ y=kx) (s:ev N σ z=v) (hi:isK kx)
 (A:∀ w',Md (fun j=>j=b) w w'→bz w'.heap b isK (a9 f kx v)→K σ w'):bP P N ⟨none,.insert t x y z,ty,pos,af,g⟩ σ w K:=by
 obtain ⟨w',h1,h2,h3⟩:=xX (v:=v) i a hm hi
 have c:(execOp (ev N σ) ⟨none,.insert t x y z,ty,pos,af,g⟩).run P w= .ok .skip w':=by
  simp [execOp,p,q,s,h1]
 unfold bP Oper.wp
 rw [eL,c]
 exact ⟨σ,U,A w' h2 h3⟩
end
end Go.Hb
end
section
namespace Go.Hb
section
variable {P:Program} {N:Fm} {σ:Nat→Value} {w:World} {fn:Func} {R:Value→World→Prop}
theorem EN {t b off :Nat} {v:Value} (hu:cj P t=some none) (a:Hb.aG w.heap b off =some v):(loadVar t ⟨b,off,none⟩).run P w= .ok v w:=by
 have c:w.cell? ⟨b,off,none⟩=some v:=by rw [iZ]; exact a
 unfold cj at hu
 cases hd:P.underlying t with
 | none=>rw [hd] at hu; cases hu
 | some d=>
   rw [hd] at hu
   cases d <;> first
    | (simp only [Option.map_eq_some_iff] at hu; obtain ⟨_,_,h⟩:=hu; cases h; done)
    | simp [loadVar,isAgg,cG hd,run_load,c]
theorem EO {t n b off :Nat} {cs:List Value} (hu:cj P t=some (some n)) (q:cs.length=n) (c:∀ j,j < n→Hb.aG w.heap b (off+j)=cs[j]?):(loadVar t ⟨b,off,none⟩).run P w= .ok (.agg cs.toArray) w:=by
 have p:(loadCells ⟨b,off,none⟩ n).run P w= .ok cs.toArray w:=by
  subst q
  refine run_loadCells_list (P:=P) w ⟨b,off,none⟩ cs fun j v a=> ?_
  rw [hZ,iZ]
  exact (c j (List.getElem?_eq_some_iff.1 a).1).trans a
 unfold cj at hu
 cases hd:P.underlying t with
 | none=>rw [hd] at hu; cases hu
 | some d=>
   rw [hd] at hu
   cases hi:P.info? t with
   | none=>simp [Program.underlying,hi] at hd
   | some i=>
     rw [hi] at hu
     cases d <;> first
      | (cases hu; done)
      | (simp only [Option.map_some,Option.some.injEq] at hu; subst hu
         simp [loadVar,isAgg,cG hd,sizeOf,eK hi,p])
def iX (P:Program) (N:Fm) (σ:Nat→Value) (w:World):ResultVar→Value→Prop
 | .tmp t,v=>ev N σ (.tmp t)=v
 | .cell a t,v=> ∃ ad,ev N σ (.tmp a)= .pointer (some ad)∧(loadVar t ad).run P w= .ok v w
theorem dS {t:Tmp} :iX P N σ w (.tmp t) (ev N σ (.tmp t)):=rfl
theorem rN {a t b off :Nat} {v:Value} (i:ev N σ (.tmp a)= .pointer (some ⟨b,off,none⟩)) (hu:cj P t=some none) (c:Hb.aG w.heap b off =some v):iX P N σ w (.cell a t) v:=⟨_,i,EN hu c⟩
theorem dm {a t n b off :Nat} {cs:List Value} (p:ev N σ (.tmp a)= .pointer (some ⟨b,off,none⟩)) (hu:cj P t=some (some n)) (i:cs.length=n) (c:∀ j,j < n→Hb.aG w.heap b (off+j)=cs[j]?):iX P N σ w (.cell a t) (.agg cs.toArray):=⟨_,p,EO hu i c⟩
def jK (tmps:Array Value):ResultVar→Sem Value
 | .tmp t=>pure (tmps.getD t undef)
 | .cell a t=>do loadVar t (← asAddr (tmps.getD a undef))
theorem iT {r:ResultVar} {v:Value} (h:iX P N σ w r v):(jK (act N σ).tmps r).run P w= .ok v w:=by
 cases r with
 | tmp t=>
   show Sem.run P (pure ((act N σ).tmps.getD t undef)) w=_
   rw [jg]; simp only [iX] at h; rw [h]; rfl
 | cell a t=>
   obtain ⟨ad,h1,h2⟩:=h
   show Sem.run P (do loadVar t (← asAddr ((act N σ).tmps.getD a undef))) w=_
   rw [jg,h1]
   simp [asAddr,h2]
theorem GD {tmps:Array Value} {r:ResultVar} {v:Value} (h:fn.results= #[r]) (h1:(jK tmps r).run P w= .ok v w):(results fn tmps).run P w= .ok v w:=by
 have a:(results fn tmps)=(do let vs ← #[r].mapM (jK tmps); pure (if h:vs.size=1 then vs[0] else .tuple vs)):=by
  unfold results; rw [h]; rfl
 rw [a]; simp [List.mapM_toArray,h1]
theorem o5 {tmps:Array Value} {r s:ResultVar} {v u:Value} (h:fn.results= #[r,s]) (h1:(jK tmps r).run P w= .ok v w) (h2:(jK tmps s).run P w= .ok u w):(results fn tmps).run P w= .ok (.tuple #[v,u]) w:=by
 have a:(results fn tmps)=(do let vs ← #[r,s].mapM (jK tmps); pure (if h:vs.size=1 then vs[0] else .tuple vs)):=by
  unfold results; rw [h]; rfl
 rw [a]; simp [List.mapM_toArray,h1,h2]
theorem GF {tmps:Array Value} {r s q:ResultVar} {v u z:Value} (h:fn.results= #[r,s,q]) (h1:(jK tmps r).run P w= .ok v w) (h2:(jK tmps s).run P w= .ok u w) (h3:(jK tmps q).run P w= .ok z w):(results fn tmps).run P w= .ok (.tuple #[v,u,z]) w:=by
 have a:(results fn tmps)=(do let vs ← #[r,s,q].mapM (jK tmps); pure (if h:vs.size=1 then vs[0] else .tuple vs)):=by
  unfold results; rw [h]; rfl
 rw [a]; simp [List.mapM_toArray,h1,h2,h3]
theorem mU {r:ResultVar} {v:Value} (h:fn.results= #[r]) (h1:iX P N σ w r v) (a:R v w):fin P fn N R .ret σ w:=⟨v,GD h (iT h1),a⟩
theorem ez {r s:ResultVar} {v u:Value} (h:fn.results= #[r,s]) (h1:iX P N σ w r v) (h2:iX P N σ w s u) (a:R (.tuple #[v,u]) w):fin P fn N R .ret σ w:=⟨_,o5 h (iT h1) (iT h2),a⟩
theorem uA {r s q:ResultVar} {v u z:Value} (h:fn.results= #[r,s,q]) (h1:iX P N σ w r v) (h2:iX P N σ w s u) (h3:iX P N σ w q z) (a:R (.tuple #[v,u,z]) w):fin P fn N R .ret σ w:=⟨_,GF h (iT h1) (iT h2) (iT h3),a⟩
end
end Go.Hb
end
section
namespace Go.Hb
open Go.RowKit
def jP (P:Program) (N:Fm) (c:Code) (B:Exit→Act→World→Prop) (σ:Nat→Value) (w:World):Prop :=c.wpIn (fe N.r) 0 P B (act N σ) w
def qb (N:Fm) (B:Exit→Act→World→Prop):Exit→(Nat→Value)→World→Prop :=fun e σ w=>B e (act N σ) w
section
variable {P:Program} {N:Fm} {B:Exit→Act→World→Prop} {σ:Nat→Value} {w:World}
theorem ep {x y:Code} (h:jP P N x (Exit.then (y.wpIn (fe N.r) 0 P B) B) σ w):jP P N (.seq x y) B σ w:=wpIn_seq h
theorem eA {y:Code} (h:jP P N y B σ w):qb N (Exit.then (y.wpIn (fe N.r) 0 P B) B) .normal σ w:=h
theorem rJ {y:Act→World→Prop} (h:qb N B .ret σ w):qb N (Exit.then y B) .ret σ w:=h
theorem rO (h:qb N B .ret σ w):jP P N .ret B σ w:=wpIn_ret h
theorem eR {c:Code} (h:ca P N c (qb N B) σ w):jP P N c B σ w:=by
 unfold ca at h
 refine wpIn_mono h ?_
 intro e a w i
 cases e with
 | panic c=>obtain ⟨σ,rfl,j⟩:=i; exact j σ fun _ _=>rfl
 | outgrown=>exact i.elim
 | _=>obtain ⟨σ,rfl,j⟩:=i; exact j
end
theorem o7 (fn:Func) (args:List Value) (F:List Nat) (hn:Nat.ble args.length fn.ntmps=true):({tmps:=args.toArray++Array.replicate (fn.ntmps - args.toArray.size) undef,defers:= []} :Act)=act ⟨fn.ntmps,[],F,none⟩ (iz args):=by
 have a:args.length≤fn.ntmps:=by simpa using hn
 refine nS U fun i=> ?_
 rw [j0]
 simp only [iz,List.getD_eq_getElem?_getD,List.size_toArray]
 by_cases h1:i < args.length
 · rw [Array.getElem?_append_left (by simpa using h1),if_pos aa]
   simp [h1]
 · rw [Array.getElem?_append_right (by simpa using h1)]
   simp only [List.size_toArray,Array.getElem?_replicate]
   by_cases h2:i < fn.ntmps
   · rw [if_pos aa,if_pos h2,List.getElem?_eq_none aa]; rfl
   · rw [if_neg aa,if_neg h2]
abbrev Bm (P:Program) (fn:Func) (R:Value→World→Prop):Exit→Act→World→Prop :=bodyPostM Fence.wide 0 P fn (fun e w'=> ∃ v,e= .returned v∧R v w')
theorem uv {P:Program} {f:FuncId} {N:Nat} {fn:Func} {c:Code} {args:List Value} {w:World} {R:Value→World→Prop} (F:List Nat) (j:P.funcs[f]? =some fn) (i:fn.body=some c)
 (a:fn.ntmps=N) (hn:Nat.ble args.length N=true) (h:jP P ⟨N,[],F,none⟩ c (Bm P fn R) (iz args) w):a3 P f args.toArray w R:=by
 subst a
 refine callsIn_wide.1 (callsIn_of_wp_marks (F:=Fence.wide) (n:=0) j i trivial ?_)
 rw [o7 fn args F hn]
 exact h
section
variable {P:Program} {n:Nat} {F:List Nat} {σ:Nat→Value} {w:World} {fn:Func} {R:Value→World→Prop}
theorem Es {e:Exit} (he:e= .ret∨e= .normal) {v:Value} (c:(results fn (act ⟨n,[],F,none⟩ σ).tmps).run P w= .ok v w) (a:R v w):qb ⟨n,[],F,none⟩ (Bm P fn R) e σ w:=by
 rcases he with rfl | rfl <;> exact ⟨v,c,v,rfl,a⟩
theorem uy {t u:Nat} {v a:Value} (h:fn.results= #[.tmp t,.tmp u]) (i:ev ⟨n,[],F,none⟩ σ (.tmp t)=v) (hu:ev ⟨n,[],F,none⟩ σ (.tmp u)=a) (c:R (.tuple #[v,a]) w):qb ⟨n,[],F,none⟩ (Bm P fn R) .ret σ w:=
 Es (.inl rfl) (by rw [results_tmp2 h,jg,jg,i,hu]) c
theorem Et {D:Nat} {v:Value} (a:w.heap[D]? =some (.deferred (some []))) (i:∀ w',(results fn (act ⟨n,[{target:= .collected D,args:= #[]}],F,none⟩ σ).tmps).run P w'= .ok v w') (c:R v (w.putObj D (.deferred none))):
 qb ⟨n,[{target:= .collected D,args:= #[]}],F,none⟩ (Bm P fn R) .ret σ w:=
 ⟨FrameMode.noConfusion,.inl ⟨_,_,rfl,run_takeDeferred a,⟨v,i _,v,rfl,c⟩⟩⟩
theorem uz {D t u:Nat} {v a:Value} (h:fn.results= #[.tmp t,.tmp u]) (j:ev ⟨n,[{target:= .collected D,args:= #[]}],F,none⟩ σ (.tmp t)=v) (hu:ev ⟨n,[{target:= .collected D,args:= #[]}],F,none⟩ σ (.tmp u)=a)
 (c:w.heap[D]? =some (.deferred (some []))) (i:R (.tuple #[v,a]) (w.putObj D (.deferred none))):qb ⟨n,[{target:= .collected D,args:= #[]}],F,none⟩ (Bm P fn R) .ret σ w:=
 Et c (fun w'=>by rw [results_tmp2 h,jg,jg,j,hu]) i
end
theorem cT {w:World} {B t size n pp a:Nat} {v:Value} {xs:List Value} {cs:Array Value} {z:Nat×Nat} (h:w.ownsRow B t size v n xs) (hp:w.heap[pp]? =some (.cells cs a z)) (i:t≠a):v.ownBlock≠some pp:=by
 intro hk
 rcases h.2 with ⟨h1,_⟩ | ⟨g,cap,cur,h1,_,c,_⟩
 · rw [h1] at hk; simp [Value.ownBlock] at hk
 · rw [h1] at hk
   simp only [Value.ownBlock,Option.some.injEq] at hk
   subst hk
   rw [c] at hp
   simp only [Option.some.injEq,Obj.cells.injEq] at hp
   exact i hp.2.1
section
variable {P:Program} {N:Fm} {σ:Nat→Value} {w:World} {dst:Option Nat} {ty:TypeId} {pos :String} {af:Array Edge} {g:Option (Nat×Bool)} {x:Operand} {K:(Nat→Value)→World→Prop}
theorem za {e:TypeId} {v:Value} (a:ev N σ x=v) (h1:v.oneCell'=true) (k:∀ b w',b=w.heap.size→Nw w w'→w'.heap[b]? =some (.cells [v].toArray e (0,0))→K (eb σ dst (.pointer (some ⟨b,0,none⟩))) w'):
 bP P N ⟨dst,.box e x,ty,pos,af,g⟩ σ w K:=by
 refine jR (v:=fun b=> .pointer (some ⟨b,0,none⟩)) (ob:= .cells [v].toArray e (0,0)) ?_ k
 have :=jG h1
 simp [execOp,Instr.box,a,this,newVar,newRow]
end
theorem l3 (w:World) (k:Nat) (o:Obj):Md (fun j=>j=k) w (w.putObj k o):=
 ⟨rfl,rfl,by simp [World.putObj],fun j _ a=>World.putObj_heap_other a⟩
def fQ (w w':World):Prop := ∀ (k:Nat) (o:Obj),w.heap[k]? =some o→(∀ cur e z,o≠.cells cur e z)→w'.heap[k]? =some o
theorem fQ.trans {a b c:World} (h:fQ a b) (i:fQ b c):fQ a c:=fun k o j hn=>i k o (h k o j hn) hn
theorem fQ.md {F:Nat→Prop} {w w':World} (hm:Md F w w') (i:∀ k,F k→∃ cur e z,w.heap[k]? =some (.cells cur e z)):fQ w w':=fun k o a hn=>by
 rw [hm.fE k (Array.getElem?_eq_some_iff.1 a).1 (fun hk=>by obtain ⟨c,e,z,h⟩:=i k hk; rw [a] at h; exact hn _ _ _ (Option.some.inj h))]; exact a
theorem fQ.wk {w w':World} (hm:Wk w w'):fQ w w':=fQ.md hm fun _ h=>h.elim
theorem nf {w:World} {B e size n:Nat} {v:Value} {xs:List Value} (h:w.ownsRow B e size v n xs):∀ k,v.ownBlock=some k→∃ cur e z,w.heap[k]? =some (.cells cur e z):=by
 intro k hk
 rcases h.2 with ⟨rfl,_⟩ | ⟨g,cap,c,rfl,_,a,_⟩
 · simp [Value.ownBlock] at hk
 · simp only [Value.ownBlock,Option.some.injEq] at hk; subst hk; exact ⟨_,_,_,a⟩
def yq {α:Type} (B:Nat) (a:List α→World→Prop):Prop := ∀ pre W W' (F:Nat→Prop),a pre W→Md F W W'→(∀ k,F k→B≤k∧∀ cur e z,W.heap[k]?≠some (.cells cur e z))→a pre W'
section
variable {F:Nat→Prop} {W W':World} {B:Nat}
theorem pA {b e:Nat} {cs:Array Value} {z:Nat×Nat} (h:W.heap[b]? =some (.cells cs e z)) (hm:Md F W W') (a:∀ k,F k→B≤k∧∀ cur e z,W.heap[k]?≠some (.cells cur e z)):W'.heap[b]? =some (.cells cs e z):=by
 rw [hm.fE b (Array.getElem?_eq_some_iff.1 h).1 (fun hk=>(a b hk).2 _ _ _ h)]; exact h
theorem xC {a e size n:Nat} {v:Value} {xs:List Value} (h:W.ownsRow a e size v n xs) (hm:Md F W W') (i:∀ k,F k→B≤k∧∀ cur e z,W.heap[k]?≠some (.cells cur e z)):W'.ownsRow a e size v n xs:=
 bK h hm fun k hk j=>by obtain ⟨c,e,z,h1⟩:=nf h k hk; exact (i k j).2 _ _ _ h1
theorem xD {w:World} (h:Wk w W) (hm:Md F W W') (i:w.heap.size≤B) (a:∀ k,F k→B≤k∧∀ cur e z,W.heap[k]?≠some (.cells cur e z)):Wk w W':=Md.trans' h hm fun k hk c=>by have :=(a k c).1; omega
end
def sn {α:Type} (P:Program) (q:Nat) (s:Array Value) (p:α→Array Value) (xs:List α) (j:World→Prop):Prop :=
 ∀ (l:Nat) (a:List α→World→Prop) (W:World),a [] W→(∀ pre W,a pre W→j W)→(∀ pre c i,a pre c→Wk c i→a pre i)→
   (∀ pre x rest c,xs=pre++x::rest→a pre c→YieldAt Fence.wide 0 P l (p x) c fun e W'=>e= .returned (.bool true)∧a (pre++ [x]) W')→
   Calls P q (#[.func (.yield l) #[] #[]]++s) W fun e W'=>(∃ v,e= .returned v)∧a xs W'
def GB (R:World→Prop):Exit→(Nat→Value)→World→Prop
 | .normal,_,w=>R w
 | _,_,_=>False
theorem ys (N:Fm):∀ (l:List (Tmp×Value)) (σ:Nat→Value),l.foldl (fun t p=>t.setIfInBounds p.1 p.2) (act N σ).tmps=(act N (l.foldl (fun s p=>cw s p.1 p.2) σ)).tmps:=by
 intro l
 induction l with
 | nil=>intro σ; rfl
 | cons p l a=>
   intro σ
   rw [List.foldl_cons,List.foldl_cons,← a]
   congr 1
   have :=congrArg Act.tmps (gv N σ (some p.1) p.2)
   exact this
theorem xe {α:Type} {P:Program} {id n:Nat} {g:Operand} {ps:Array Tmp} {Z body:Code} {O:List Nat} {σ:Nat→Value} {w:World} {B:Exit→Act→World→Prop} {V:Nat} {Y:Array Value}
 (I:α→Array Value) (xs:List α) (ah:World→Prop) (i:List α→World→Prop) (aB:ev ⟨n,[],O,none⟩ σ g= .func (.func V) #[] Y) (ay:aY P V) (aI:∀ x,(I x).size=ps.size)
 (aD:sn P V Y I xs ah) (aq:i [] w) (az:∀ pre W,i pre W→ah W) (ab:yq w.heap.size i) (an:α→Nat→Value)
 (aw:∀ (l:Nat) (x:α) (W:World) (K:(Nat→Value)→World→Prop),K (an x) W→ca P ⟨n,[],[],some l⟩ Z (iV K fun _ _ _=>False) ((ps.toList.zip (I x).toList).foldl (fun s p=>cw s p.1 p.2) σ) W)
 (ax:∀ (l:Nat) (pre:List α) (x:α) (rest:List α) (W:World),xs=pre++x::rest→i pre W→ca P ⟨n,[],[],some l⟩ body (GB fun W'=>fQ W W'∧i (pre++ [x]) W') (an x) W)
 (hd:∀ (D:Nat) (W:World),w.heap.size≤D→i xs W→W.heap[D]? =some (.deferred (some []))→qb ⟨n,[{target:= .collected D,args:= #[]}],O,none⟩ B .normal σ W):
 jP P ⟨n,[],O,none⟩ (.block id (.rangeFunc g ps Z body)) B σ w:=by
 refine wpIn_block (wpIn_rangeFunc ?_)
 intro fn _
 obtain ⟨rc,M⟩:∃ rc:LoopState→Option Code→Loop,rc=fun st aL=> {state:=st,pending:=aL,fn,tmps:=(act ⟨n,[],O,none⟩ σ).tmps,params:=ps,assign:=Z,body,defers:=w.heap.size} :=⟨_,rfl⟩
 obtain ⟨j,ac⟩:∃ j,(w.alloc (.deferred (some []))).alloc (.loop (rc .ready none))=j:=⟨_,rfl⟩
 have av:j.heap[w.heap.size+1]? =some (.loop (rc .ready none)):=by
  rw [← ac]; have :=World.alloc_heap_new (w.alloc (.deferred (some []))) (.loop (rc .ready none)); rwa [World.size_alloc] at this
 have au:j.heap[w.heap.size]? =some (.deferred (some [])):=by
  rw [← ac]; exact (Below.heap_alloc _ _ _ (by simp)).trans (World.alloc_heap_new w _)
 have hn:∀ (W:World) (o:Obj),Wk W (W.alloc o):=fun W o=>(wj W o).md
 have ar:i [] j:=by rw [← ac]; exact ab _ _ _ _ (ab _ _ _ _ aq (hn _ _) (fun _ h=>h.elim)) (hn _ _) (fun _ h=>h.elim)
 have aA:(act ⟨n,[],O,none⟩ σ).eval g= .func (.func V) #[] Y:=by rw [eL]; exact aB
 refine ⟨w.heap.size+1,[{target:= .collected w.heap.size,args:= #[]}],j,{target:= .fn (.func V) Y,args:= #[.func (.yield (w.heap.size+1)) #[] #[]]},j,V,
  #[.func (.yield (w.heap.size+1)) #[] #[]]++Y,j,?_,?_,fun _ _=>trivial,?_,fun ap=>(by cases ap),?_⟩
 · rw [← ac,M]; exact run_enterLoop_outer _ _ _ _ _
 · simp only [resolve,aA]
   simp [go_sem]
 · have :=ay (#[.func (.yield (w.heap.size+1)) #[] #[]]++Y) j
   simp [invoke,go_sem,this]
 · have ae:∀ (pre:List α) (W:World) (o ag:Obj),i pre W→W.heap[w.heap.size+1]? =some o→(∀ cur e z,o≠.cells cur e z)→i pre (W.putObj (w.heap.size+1) ag):=fun pre W o ag h1 h2 h3=>
    ab _ _ _ _ h1 (l3 W _ ag) fun k hk=>⟨aa,fun cur e z h4=>by subst hk; rw [h2] at h4; exact h3 _ _ _ (Option.some.inj h4)⟩
   refine callsIn_wide.2 (Calls.mono (aD (w.heap.size+1)
    (fun pre W=>i pre W∧W.heap[w.heap.size+1]? =some (.loop (rc .ready none))∧W.heap[w.heap.size]? =some (.deferred (some [])))
    j ⟨ar,av,au⟩ (fun pre W h=>az pre W h.1)
    (fun pre A C h hm=>⟨ab _ _ _ _ h.1 hm (fun _ h=>h.elim),(hm.fE _ (Array.getElem?_eq_some_iff.1 h.2.1).1 (fun h=>h)).trans h.2.1,(hm.fE _ (Array.getElem?_eq_some_iff.1 h.2.2).1 (fun h=>h)).trans h.2.2⟩) ?_) ?_)
   · rintro pre x rest W aK ⟨hi,J,hk⟩
     have aH:w.heap.size+1 < W.heap.size:=(Array.getElem?_eq_some_iff.1 J).1
     have al:=run_yield (P:=P) (args:=I x) J (by rw [M]; exact aI x)
     rw [M] at al
     refine ⟨fn,_,Z,body,al,roundIn_of_wpIn (F:=Fence.wide) trivial ?_⟩
     have aJ:((ps.zip (I x)).foldl (fun tmps (p:Tmp×Value)=>tmps.setIfInBounds p.1 p.2) (act ⟨n,[],O,none⟩ σ).tmps)=(act ⟨n,[],[],some (w.heap.size+1)⟩ ((ps.toList.zip (I x).toList).foldl (fun s p=>cw s p.1 p.2) σ)).tmps:=by
      rw [← Array.foldl_toList,Array.toList_zip]
      exact ys ⟨n,[],[],some (w.heap.size+1)⟩ _ σ
     have h1:=aw (w.heap.size+1) x W (fun G W'=> ∃ am,(Instr.beginRound (w.heap.size+1)).run P W'= .ok () am∧
      body.wpIn (Fence.wide.inRound (w.heap.size+1)) 0 P (roundPost P (w.heap.size+1) fun e W'=>e= .returned (.bool true)∧i (pre++ [x]) W'∧W'.heap[w.heap.size+1]? =some (.loop (rc .ready none))∧W'.heap[w.heap.size]? =some (.deferred (some []))) (act ⟨n,[],[],some (w.heap.size+1)⟩ G) am) ?_
     · unfold ca at h1
       have ao:({tmps:=(ps.zip (I x)).foldl (fun tmps (p:Tmp×Value)=>tmps.setIfInBounds p.1 p.2) (act ⟨n,[],O,none⟩ σ).tmps,defers:= []} :Act)=act ⟨n,[],[],some (w.heap.size+1)⟩ ((ps.toList.zip (I x).toList).foldl (fun s p=>cw s p.1 p.2) σ):=by rw [aJ]; rfl
       rw [ao]
       refine wpIn_mono h1 ?_
       intro e a w' q
       cases e with
       | normal=>obtain ⟨G,rfl,E⟩:=q; exact E
       | panic c=>obtain ⟨G,rfl,E⟩:=q; exact E G fun _ _=>rfl
       | outgrown=>exact q.elim
       | _=>obtain ⟨G,rfl,E⟩:=q; exact E
     refine ⟨_,run_beginRound J (by rw [M]),?_⟩
     have aG:(W.putObj (w.heap.size+1) (.loop {rc .ready none with state:= .busy})).heap[w.heap.size+1]? =some (.loop {rc .ready none with state:= .busy}):=World.putObj_heap_same aH
     have aE:(W.putObj (w.heap.size+1) (.loop {rc .ready none with state:= .busy})).heap[w.heap.size]? =some (.deferred (some [])):=(World.putObj_heap_other aa).trans hk
     have h2:=ax (w.heap.size+1) pre x rest _ aK (ae _ _ _ (.loop {rc .ready none with state:= .busy}) hi J (fun _ _ _ h=>by cases h))
     unfold ca at h2
     refine wpIn_mono h2 ?_
     intro e a aN q
     cases e with
     | normal=>
       obtain ⟨G,rfl,ai,aC⟩:=q
       have ad:=ai _ _ aG (fun _ _ _ h=>by cases h)
       have aF:=ai _ _ aE (fun _ _ _ h=>by cases h)
       have aj:=run_endRound (P:=P) none ad
       rw [M] at aj ad ⊢
       exact ⟨_,_,aj,U,ae _ _ _ _ aC ad (fun _ _ _ h=>by cases h),World.putObj_heap_same (Array.getElem?_eq_some_iff.1 ad).1,(World.putObj_heap_other aa).trans aF⟩
     | panic c=>obtain ⟨G,rfl,E⟩:=q; exact (E G fun _ _=>rfl).elim
     | outgrown=>exact q.elim
     | _=>obtain ⟨G,rfl,E⟩:=q; exact E.elim
   · rintro e aM ⟨⟨v,rfl⟩,hi,J,hk⟩
     have ak:=run_endLoop (P:=P) J (by rw [M]; simp)
     rw [M] at ak
     refine ⟨none,_,ak,?_⟩
     rw [M] at J
     exact hd w.heap.size _ (Nat.le_refl _) (ae _ _ _ _ hi J (fun _ _ _ h=>by cases h)) ((World.putObj_heap_other aa).trans hk)
section
variable {P:Program} {N:Fm} {ops:Array Oper} {Q:Exit→(Nat→Value)→World→Prop} {rest:List Oper} {σ:Nat→Value} {w:World} {d':Option Nat} {d:Nat} {op:Op} {ty:TypeId} {pos :String} {af:Array Edge} {v:Value}
def jQ (P:Program) (N:Fm) (ops:Array Oper) (Q:Exit→(Nat→Value)→World→Prop) (l:List Oper) (σ:Nat→Value) (w:World):Prop :=wpListIn (fe N.r) 0 P ops (lift N Q) l (act N σ) w
theorem Gy {id:Nat} {l:List Oper} (h:jQ P N l.toArray Q l σ w):ca P N (.region id l.toArray false) Q σ w:=by
 unfold ca; exact wpIn_region_lit h
theorem Fe (h:Q .normal σ w):jQ P N ops Q [] σ w:=⟨σ,rfl,h⟩
def rl (o:Op):Bool:=match o with | .defer _=>false | _=>true
theorem Fg {o:Op} (h:rl o=true):∀ c,o≠.defer c:=fun c e=>by subst e; cases h
theorem ey (hn:rl op=true) (h:bP P N ⟨d',op,ty,pos,af,none⟩ σ w (fun σ w=>jQ P N ops Q rest σ w)):jQ P N ops Q (⟨d',op,ty,pos,af,none⟩::rest) σ w:=by
 unfold jQ wpListIn
 rw [if_pos (fO _ rfl _)]
 refine ⟨fun f _=>oC _ f,?_⟩
 rw [qB,Oper.semAt_eq _ _ _ (Fg hn)]
 unfold bP Oper.wp at h
 generalize (execOp (act N σ).eval ⟨d',op,ty,pos,af,none⟩).run P w=x at h ⊢
 cases x with
 | ok n w'=>
   cases n <;> simp only [Oper.upon,Oper.uponIn] at h ⊢ <;>
    first
     | (obtain ⟨j,i,hk⟩:=h; rw [i]; exact hk)
     | (refine ⟨fun a=>(by rw [mV] at a; cases a),CallsIn.mono (uC h) fun e w'' he=> ?_⟩
        cases e with
        | returned v=>obtain ⟨j,i,hk⟩:=he; simp only; rw [i]; exact hk
        | panicked c=>exact he.elim
        | outgrown=>obtain ⟨_,_,p⟩:=he; exact p.elim)
     | (refine ⟨fun a=>(by rw [mV] at a; cases a),RowsIn.mono (uD h) fun v w'' he=> ?_⟩
        obtain ⟨j,i,hk⟩:=he; rw [i]; exact hk)
 | halt x w'=>cases x <;> simp only [Oper.upon] at h
theorem py (hn:rl op=true) (h:(execOp (ev N σ) ⟨some d,op,ty,pos,af,none⟩).run P w= .ok (.value v) w) (k:jQ P N ops Q rest (cw σ d v) w):jQ P N ops Q (⟨some d,op,ty,pos,af,none⟩::rest) σ w:=
 ey hn (jh h k)
theorem Ie {l:Nat} {fo:Operand} {args:Array Operand} {i:Array TypeId} {L:List Value} {R:World→Prop} (A:ev N σ fo= .func (.yield l) #[] #[]) (q:args.toList.map (ev N σ)=L)
 (E:YieldAt Fence.wide 0 P l L.toArray w fun e W'=>e= .returned (.bool true)∧R W') (k:∀ W',R W'→jQ P N ops Q rest (cw σ d (.bool true)) W'):
 jQ P N ops Q (⟨some d,.call ⟨.value fo,args,i⟩,ty,pos,af,none⟩::rest) σ w:=by
 obtain ⟨fn,tmps,a,b,s,p⟩:=E
 unfold jQ wpListIn
 rw [if_pos (fO _ rfl _)]
 refine ⟨fun f _=>oC _ f,?_⟩
 rw [qB,Oper.semAt_eq _ _ _ (fun c e=>by cases e),eL]
 have hm:args.map (ev N σ)=L.toArray:=by rw [← q,← Array.toList_map]
 have C:(execOp (ev N σ) ⟨some d,.call ⟨.value fo,args,i⟩,ty,pos,af,none⟩).run P w= .ok (.round l fn tmps a b) w:=by
  simp [execOp,resolve,A,Deferred.ofValue,invoke,hm,s]
 rw [C]
 simp only [Oper.uponIn]
 refine ⟨fun j=>(by rw [mV] at j; cases j),?_⟩
 have h1:RoundIn (fe N.r) (0 - 1) P l fn tmps a b w fun e W'=>e= .returned (.bool true)∧R W':=by
  cases hr:N.r with
  | none=>exact p
  | some k=>exact p
 refine RoundIn.mono h1 ?_
 rintro e W' ⟨rfl,hw⟩
 simp only
 rw [gv]
 exact k W' hw
end
end Go.Hb
end
section
namespace Go.Hb
open Go.RowKit
def c8 (P:Program) (f:FuncId) (args:Array Value) (w:World) (R:Value→World→Prop) (Pn:List PanicEntry→World→Prop):Prop :=
 Calls P f args w fun e w'=>(∃ v,e= .returned v∧R v w')∨∃ c,e= .panicked c∧Pn c w'
def uG (P:Program) (fn:Func) (N:Fm) (R:Value→World→Prop) (Pn:List PanicEntry→World→Prop):Exit→(Nat→Value)→World→Prop
 | .normal,σ,w=> ∃ v,(results fn (act N σ).tmps).run P w= .ok v w∧R v w
 | .ret,σ,w=> ∃ v,(results fn (act N σ).tmps).run P w= .ok v w∧R v w
 | .panic c,_,w=>Pn c w
 | _,_,_=>False
theorem fk {P:Program} {fn:Func} {N:Fm} {R:Value→World→Prop} {Pn:List PanicEntry→World→Prop} {e:Exit} {σ:Nat→Value} {w:World} (h:fin P fn N R e σ w):uG P fn N R Pn e σ w:=by
 cases e <;> first | exact h | exact h.elim
theorem fI {P:Program} {f:FuncId} {N:Nat} {fn:Func} {c:Code} {args:List Value} {w:World} {R:Value→World→Prop} {Pn:List PanicEntry→World→Prop} (C:P.funcs[f]? =some fn) (A:fn.body=some c)
 (s:fn.ntmps=N) (hn:Nat.ble args.length N=true) (h:ca P ⟨N,[],[],none⟩ c (uG P fn ⟨N,[],[],none⟩ R Pn) (iz args) w):c8 P f args.toArray w R Pn:=by
 subst s
 refine calls_of_wp C A ?_
 rw [o7 fn args [] hn]
 unfold ca at h
 refine Code.wp_mono ?_ (wpIn_wide.1 h)
 intro e a w i
 cases e with
 | normal=>obtain ⟨σ,rfl,v,q,p⟩:=i; exact ⟨rfl,v,q,.inl ⟨v,rfl,p⟩⟩
 | ret=>obtain ⟨σ,rfl,v,q,p⟩:=i; exact ⟨rfl,v,q,.inl ⟨v,rfl,p⟩⟩
 | exit id=>obtain ⟨σ,rfl,j⟩:=i; exact j.elim
 | goto l=>obtain ⟨σ,rfl,j⟩:=i; exact j.elim
 | panic c=>obtain ⟨σ,rfl,j⟩:=i; exact ⟨rfl,.inr ⟨c,rfl,j σ fun _ _=>rfl⟩⟩
 | outgrown=>exact i.elim
section
variable {P:Program} {N:Fm} {Q:Exit→(Nat→Value)→World→Prop} {σ:Nat→Value} {w:World} {ops:Array Oper} {rest:List Oper} {dst:Option Nat} {ty:TypeId} {pos :String} {af:Array Edge} {g:Option (Nat×Bool)} {x:Operand}
def jS (P:Program) (N:Fm) (o:Oper) (σ:Nat→Value) (w:World) (K:(Nat→Value)→World→Prop) (Pn:List PanicEntry→World→Prop):Prop :=
 Oper.wp P o (act N σ) w (fun a w=> ∃ σ,a=act N σ∧K σ w) (fun e a w=>match e with | .panic c=>a=act N σ∧Pn c w | _=>False)
theorem pJ {o:Oper} {K:(Nat→Value)→World→Prop} {Pn:List PanicEntry→World→Prop} {j:Act→World→Prop} (h:jS P N o σ w K Pn) (hk:∀ σ w,K σ w→j (act N σ) w) (hp:∀ c w',Pn c w'→∀ s,(∀ i∈N.F,s i=σ i)→Q (.panic c) s w'):o.wp P (act N σ) w j (lift N Q):=by
 unfold jS at h
 unfold Oper.wp at*
 generalize (execOp (act N σ).eval o).run P w=r at h ⊢
 have p:∀ a w,(∃ σ,a=act N σ∧K σ w)→j a w:=by rintro a w ⟨σ,rfl,h⟩; exact hk _ _ h
 have q:∀ c (a:Act) w',(a=act N σ∧Pn c w')→lift N Q (.panic c) a w':=by rintro c a w' ⟨rfl,h⟩; exact ⟨σ,rfl,hp c w' h⟩
 cases r with
 | ok n w'=>
   cases n <;> simp only [Oper.upon] at h ⊢ <;>
    first
     | exact p _ _ h
     | exact Calls.mono h (fun e w'' he=>by
      cases e with
      | returned v=>exact p _ _ he
      | panicked c=>exact q _ _ _ ⟨rfl,he.2⟩
      | outgrown=>obtain ⟨_,_,A⟩:=he; exact A.elim)
     | exact Rows.mono h (fun _ _ he=>p _ _ he)
 | halt x w'=>cases x <;> simp only [Oper.upon] at h ⊢ <;> exact q _ _ _ ⟨rfl,h.2⟩
theorem bO {f:FuncId} {args:Array Operand} {a:Array TypeId} {L:List Value} {R:Value→World→Prop} {Pn:List PanicEntry→World→Prop} {K:(Nat→Value)→World→Prop} (q:aY P f) (s:c8 P f L.toArray w R Pn) (i:args.toList.map (ev N σ)=L)
 (k:∀ v w',R v w'→K (eb σ dst v) w'):jS P N ⟨dst,.call ⟨.value (.func f),args,a⟩,ty,pos,af,g⟩ σ w K Pn:=by
 unfold jS Oper.wp
 have hm:args.map (ev N σ)=L.toArray:=by rw [← i,← Array.toList_map]
 have A:(execOp (ev N σ) ⟨dst,.call ⟨.value (.func f),args,a⟩,ty,pos,af,g⟩).run P w= .ok (.enter f L.toArray) w:=by
  have h2:=q L.toArray w
  simp [execOp,resolve,ev,Deferred.ofValue,invoke,hm,h2]
 rw [eL,A]
 simp only [Oper.upon]
 refine Calls.mono s ?_
 rintro e w' (⟨v,rfl,p⟩ | ⟨c,rfl,j⟩)
 · exact ⟨_,gv ..,k v w' p⟩
 · exact ⟨trivial,j⟩
theorem x7 {f:FuncId} {fo:Operand} {first cap:Array Value} {args:Array Operand} {a:Array TypeId} {L:List Value} {R:Value→World→Prop} {Pn:List PanicEntry→World→Prop} {K:(Nat→Value)→World→Prop} (q:aY P f) (A:ev N σ fo= .func (.func f) first cap) (s:c8 P f L.toArray w R Pn) (i:first.toList++args.toList.map (ev N σ)++cap.toList=L)
 (k:∀ v w',R v w'→K (eb σ dst v) w'):jS P N ⟨dst,.call ⟨.value fo,args,a⟩,ty,pos,af,g⟩ σ w K Pn:=by
 unfold jS Oper.wp
 have hm:first++args.map (ev N σ)++cap=L.toArray:=by rw [← i]; simp
 have C:(execOp (ev N σ) ⟨dst,.call ⟨.value fo,args,a⟩,ty,pos,af,g⟩).run P w= .ok (.enter f L.toArray) w:=by
  have h2:=q L.toArray w
  simp only [execOp,resolve,A,Deferred.ofValue,invoke]
  simp [hm,h2]
 rw [eL,C]
 simp only [Oper.upon]
 refine Calls.mono s ?_
 rintro e w' (⟨v,rfl,p⟩ | ⟨c,rfl,j⟩)
 · exact ⟨_,gv ..,k v w' p⟩
 · exact ⟨trivial,j⟩
theorem eP {o:Oper} {Pn:List PanicEntry→World→Prop} (j:o.guard=none) (h:jS P N o σ w (fun σ w=>cW P N ops Q rest σ w) Pn) (hp:∀ c w',Pn c w'→∀ a,(∀ i∈N.F,a i=σ i)→Q (.panic c) a w'):cW P N ops Q (o::rest) σ w:=by
 unfold cW wpList
 rw [if_pos (fO o j _)]
 refine .inl (pJ h (fun σ w hk=> ?_) hp)
 unfold cW at hk; exact hk
theorem F6 {t:TypeId} {v:Value} (j:ev N σ x= .iface t v) (hp:∀ a,(∀ i∈N.F,a i=σ i)→Q (.panic [{v:= .iface t v,recovered:=false}]) a w):cW P N ops Q (⟨dst,.panic x,ty,pos,af,none⟩::rest) σ w:=by
 unfold cW wpList
 rw [if_pos (fO _ rfl _)]
 refine .inl ?_
 unfold Oper.wp
 have c:(execOp (ev N σ) ⟨dst,.panic x,ty,pos,af,none⟩).run P w= .halt (.panic (.iface t v)) w:=by
  simp [execOp,j,Instr.panic]
 rw [eL,c]
 exact ⟨σ,U,hp⟩
theorem E4 {t:TypeId} {d:TypeDesc} {v:Value} (hu:P.underlying t=some d) (hd:(match d with | .interface _=>false | _=>true)=true) (a:ev N σ x=v):(execOp (ev N σ) ⟨dst,.makeInterface t x,ty,pos,af,g⟩).run P w= .ok (.value (.iface t v)) w:=by
 cases d <;> first | (cases hd; done) | simp [execOp,Instr.makeInterface,a,cG hu]
def lk (P:Program) (t:TypeId):Bool:=match P.underlying t with | some (.interface _)=>false | some _=>true | none=>false
theorem E5 {t:TypeId} {v:Value} (h:lk P t=true) (a:ev N σ x=v):(execOp (ev N σ) ⟨dst,.makeInterface t x,ty,pos,af,g⟩).run P w= .ok (.value (.iface t v)) w:=by
 unfold lk at h
 cases hd:P.underlying t with
 | none=>rw [hd] at h; cases h
 | some d=>rw [hd] at h; exact E4 hd (by cases d <;> first | rfl | cases h) a
theorem Ht {xt a:TypeId} {zv:Value} (hu:lk P a=true) (i:zeroV P a=some zv) (c:ev N σ x= .nilIface):(execOp (ev N σ) ⟨dst,.typeAssert x xt a true,ty,pos,af,g⟩).run P w= .ok (.value (.tuple #[zv,.bool false])) w:=by
 unfold lk at hu
 cases hd:P.underlying a with
 | none=>rw [hd] at hu; cases hu
 | some d=>rw [hd] at hu; cases d <;> first | (cases hu; done) | simp [execOp,Instr.typeAssert,c,cG hd,pL i]
theorem Hs {xt a:TypeId} {v:Value} (hu:lk P a=true) (c:ev N σ x= .iface a v):(execOp (ev N σ) ⟨dst,.typeAssert x xt a true,ty,pos,af,g⟩).run P w= .ok (.value (.tuple #[v,.bool true])) w:=by
 unfold lk at hu
 cases hd:P.underlying a with
 | none=>rw [hd] at hu; cases hu
 | some d=>rw [hd] at hu; cases d <;> first | (cases hu; done) | simp [execOp,Instr.typeAssert,c,cG hd]
variable {S:World→Prop} {fuel:Nat} {aR:Array Bool}
theorem lY {o:Oper} {Pn:List PanicEntry→World→Prop} (i:Nat) (hi:ops[i]? =some o) (p:iQ ops aR i=true) (j:o.guard=none)
 (h:jS P N o σ w (fun σ w=>S w∧dN P N ops Q S fuel (aR.setIfInBounds i true) σ w) Pn) (hp:∀ c w',Pn c w'→∀ a,(∀ i∈N.F,a i=σ i)→Q (.panic c) a w'):dN P N ops Q S (fuel+1) aR σ w:=by
 unfold dN at*
 refine wpAnyH_all (rs:= [i]) (by simpa [iQ] using p) (by simp) ?_
 intro k hk
 obtain rfl :k=i:=by simpa using hk
 unfold wpOp
 simp only [hi]
 rw [if_pos (fO _ j _)]
 exact .inl (pJ h (fun σ w hk=>hk) hp)
end
section
variable {P:Program} {N:Fm} {Q:Exit→(Nat→Value)→World→Prop} {σ:Nat→Value} {w:World} {ops:Array Oper} {S:World→Prop} {fuel:Nat} {aR:Array Bool}
theorem DF {o a:Oper} {Pn:List PanicEntry→World→Prop} (i j:Nat) (hi:ops[i]? =some o) (A:ops[j]? =some a) (C:((Region.ready .any ops aR)== [i,j])=true) (q:o.guard=none) (s:a.guard=none)
 (h:jS P N o σ w (fun σ w=>S w∧dN P N ops Q S fuel (aR.setIfInBounds i true) σ w) Pn) (hp:∀ c w',Pn c w'→∀ p,(∀ i∈N.F,p i=σ i)→Q (.panic c) p w')
 (h1:bP P N a σ w (fun σ w=>S w∧dN P N ops Q S fuel (aR.setIfInBounds j true) σ w)):dN P N ops Q S (fuel+1) aR σ w:=by
 unfold dN at*
 refine wpAnyH_all (rs:= [i,j]) (by simpa using C) (by simp) ?_
 intro k hk
 simp only [List.mem_cons,List.not_mem_nil,or_false] at hk
 rcases hk with rfl | rfl
 · unfold wpOp
   simp only [hi]
   rw [if_pos (fO _ q _)]
   exact .inl (pJ h (fun _ _ hk=>hk) hp)
 · unfold wpOp
   simp only [A]
   rw [if_pos (fO _ s _)]
   exact .inl (mr h1 (fun _ _ hk=>hk))
end
section
variable {P:Program} {N:Fm} {Q:Exit→(Nat→Value)→World→Prop} {σ:Nat→Value} {w:World} {ops:Array Oper} {S:World→Prop} {fuel r:Nat} {aR:Array Bool}
theorem vM {o:Oper} {Pn:List PanicEntry→World→Prop} (i:Nat) (hi:ops[i]? =some o) (s:iQ ops aR i=true) (q:o.guard=none)
 (h:jS P N o σ w (fun σ w=>S w∧et P N ops Q S r fuel (aR.setIfInBounds i true) σ w) Pn) (hp:∀ c w',Pn c w'→∀ j,(∀ i∈N.F,j i=σ i)→Q (.panic c) j w'):et P N ops Q S r (fuel+1) aR σ w:=by
 unfold et at*
 have a:Region.ready .any ops aR= [i]:=by simpa [iQ] using s
 refine ⟨fun p=>absurd (a ▸ p) (by simp),fun k hk=> ?_⟩
 rw [a] at hk
 obtain rfl :k=i:=by simpa using hk
 unfold wpOp
 simp only [hi]
 rw [if_pos (fO _ q _)]
 exact .inl (pJ h (fun σ w hk=>⟨fun _=>hk.1,hk.2⟩) hp)
end
abbrev ks (P:Program) (fn:Func) (R:Value→World→Prop):Exit→Act→World→Prop :=bodyPostD P fn (fun e w'=> ∃ v,e= .returned v∧R v w')
theorem Cm {P:Program} {f:FuncId} {N:Nat} {fn:Func} {c:Code} {args:List Value} {w:World} {R:Value→World→Prop} (F:List Nat) (j:P.funcs[f]? =some fn) (i:fn.body=some c)
 (a:fn.ntmps=N) (hn:Nat.ble args.length N=true) (h:jP P ⟨N,[],F,none⟩ c (ks P fn R) (iz args) w):a3 P f args.toArray w R:=by
 subst a
 refine calls_of_wp_defers j i ?_
 rw [o7 fn args F hn]
 exact wpIn_wide.1 h
section
variable {P:Program} {n:Nat} {D:List Deferred} {F:List Nat} {σ:Nat→Value} {w:World} {fn:Func} {R:Value→World→Prop} {B:Exit→Act→World→Prop}
theorem CD {v:Value} (c:(results fn (act ⟨n,[],F,none⟩ σ).tmps).run P w= .ok v w) (a:R v w):qb ⟨n,[],F,none⟩ (ks P fn R) .ret σ w:=⟨v,c,v,rfl,a⟩
theorem Ew:¬LetsOut (ks P fn R):=fun ⟨_,_,h⟩=>by obtain ⟨v,h,_⟩:=h; cases h
theorem B4 {id d:Nat} {f:FuncId} (C:¬LetsOut B) {cs:Array Operand} {s A:TypeId} {p q:String} {i j:Array Edge} {y:Code} (c:Array Value) (G:cs.toList.map (ev ⟨n,[],F,none⟩ σ)=c.toList) (hd:d < n)
 (h:jP P ⟨n,[{target:= .fn (.func f) c,args:= #[]}],F,none⟩ y B (cw σ d (.func (.func f) #[] c)) w):
 jP P ⟨n,[],F,none⟩ (.region id #[⟨some d,.makeFunc (.func f) #[] cs,s,p,i,none⟩,⟨none,.defer ⟨.value (.tmp d),#[],#[]⟩,A,q,j,none⟩] false) (Exit.then (y.wpIn (fe none) 0 P B) B) σ w:=by
 have I:cs.map (ev ⟨n,[],F,none⟩ σ)=c:=Array.toList_inj.1 (by rw [Array.toList_map]; exact G)
 refine wpIn_region ?_
 have E:¬LetsOut (Exit.then (y.wpIn (fe none) 0 P B) B):=fun ⟨a,w,h⟩=>C ⟨a,w,h⟩
 refine qX (r:=none) E U _ _ _ ?_
 show wpOps P _ _ [0,1] _ _
 simp only [wpOps,List.getElem?_toArray,List.getElem?_cons_zero,List.getElem?_cons_succ]
 rw [if_pos (fO _ rfl _)]
 refine .inl ?_
 unfold Oper.wp
 have h1:(execOp (act ⟨n,[],F,none⟩ σ).eval ⟨some d,.makeFunc (.func f) #[] cs,s,p,i,none⟩).run P w= .ok (.value (.func (.func f) #[] c)) w:=by
  rw [eL,mf,I]; simp
 rw [h1]
 simp only [Oper.upon]
 rw [if_pos (fO _ rfl _),gv]
 refine .inl ?_
 have h2:(execOp (act ⟨n,[],F,none⟩ (eb σ (some d) (.func (.func f) #[] c))).eval ⟨none,.defer ⟨.value (.tmp d),#[],#[]⟩,A,q,j,none⟩).run P w= .ok (.defer {target:= .fn (.func f) c,args:= #[]}) w:=by
  have J:ev ⟨n,[],F,none⟩ (cw σ d (.func (.func f) #[] c)) (.tmp d)= .func (.func f) #[] c:=by
   show cond (Nat.blt d n) (cw σ d _ d) undef=_
   rw [show Nat.blt d n=true from by simpa using hd]
   show cw σ d _ d=_
   unfold cw; simp
  rw [eL]
  show (execOp (ev ⟨n,[],F,none⟩ (cw σ d (.func (.func f) #[] c))) _).run P w=_
  simp [execOp,resolve,J,Deferred.ofValue]
 rw [h2]
 exact h
end
theorem Fz {P:Program} {ops:Array Oper} {Q:Exit→Act→List Frame→World→Prop} {cs:List Frame} (j:¬LetsOut fun e a w=>Q e a cs w):∀ (l:List Nat) (a:Act) (w:World),wpOps P ops (fun e a w=>Q e a cs w) l a w→wpOpsS P ops Q l a cs w:=by
 intro l
 induction l with
 | nil=>exact fun _ _ h=>h
 | cons i l c=>
   intro a w h
   simp only [wpOps] at h
   simp only [wpOpsS]
   cases ho:ops[i]? with
   | none=>simp only [ho] at h ⊢; exact c a w h
   | some o=>
     simp only [ho] at h ⊢
     by_cases hw:Region.wanted o (yielded ops a.tmps)=true
     · rw [if_pos hw] at h ⊢
       rcases h with h | h
       · unfold Oper.wp at h
         generalize (execOp a.eval o).run P w=x at h
         cases x with
         | ok n w'=>
           cases n <;> simp only [Oper.upon] at h ⊢ <;>
            first
             | exact c _ _ h
             | exact Calls.mono h (fun e w'' he=>by cases e <;> first | exact c _ _ he | exact he)
             | exact Rows.mono h (fun v w'' he=>c _ _ he)
         | halt x w'=>cases x <;> simp only [Oper.upon] at h ⊢ <;> exact h
       · exact absurd h.2 j
     · rw [if_neg hw] at h ⊢
       exact c _ _ h
theorem EC {P:Program} {ops:Array Oper} {Q p:Exit→Act→World→Prop} (j:∀ e a w,Q e a w→p e a w) (q:¬LetsOut Q):∀ (l:List Oper) (a:Act) (w:World),wpList P ops Q l a w→wpList P ops p l a w:=by
 intro l
 induction l with
 | nil=>exact fun _ _ h=>j _ _ _ h
 | cons o l i=>
   intro a w h
   unfold wpList at h ⊢
   split at h
   · rename_i hw
     rw [if_pos hw]
     rcases h with h | h
     · left
       unfold Oper.wp at h ⊢
       generalize (execOp a.eval o).run P w=x at h
       cases x with
       | ok n w'=>
         cases n <;> simp only [Oper.upon] at h ⊢ <;>
          first
           | exact i _ _ h
           | exact Calls.mono h (fun e w'' he=>by
            cases e with
            | returned v=>exact i _ _ he
            | panicked c=>exact j _ _ _ he
            | outgrown=>exact absurd he q)
           | exact Rows.mono h (fun v w'' he=>i _ _ he)
       | halt x w'=>cases x <;> simp only [Oper.upon] at h ⊢ <;> exact j _ _ _ h
     · exact absurd h.2 q
   · rename_i hw
     rw [if_neg hw]; exact i _ _ h
theorem tE {P:Program} {f:FuncId} {fn:Func} {id N d:Nat} {ty:TypeId} {pos :String} {af:Array Edge} {rest:List Oper} {y:Code} {args:List Value} {w:World} {u A:FrameMode} {v:Value} {R:World→Prop}
 (aa:P.funcs[f]? =some fn) (Y:fn.body=some (.seq (.region id (⟨some d,.call ⟨.builtin .recover,#[],#[]⟩,ty,pos,af,none⟩::rest).toArray false) y)) (V:fn.ntmps=N) (hn:Nat.ble args.length N=true)
 (ab:∀ (q:Frame) (cs:List Frame),q.mode=u→(recoverD (q::cs)=some (v,{q with mode:=A} ::cs))∨(recoverD (q::cs)=none∧v= .nilIface∧A=u))
 (h:cW P ⟨N,[],[],none⟩ (⟨some d,.call ⟨.builtin .recover,#[],#[]⟩,ty,pos,af,none⟩::rest).toArray (iV (fun σ w=>ca P ⟨N,[],[],none⟩ y (fin P fn ⟨N,[],[],none⟩ fun _ w=>R w) σ w) (fin P fn ⟨N,[],[],none⟩ fun _ w=>R w)) rest (cw (iz args) d v) w):
 CallsD P f args.toArray u w fun e C w'=> ∃ v,e= .returned v∧C=A∧R w':=by
 subst V
 refine callsD_of_wpS aa Y ?_
 intro q cs hu
 rw [o7 fn args [] hn]
 refine wpS_seq (wpS_region ?_)
 have ac:List.range (⟨some d,.call ⟨.builtin .recover,#[],#[]⟩,ty,pos,af,none⟩::rest).toArray.size=0::(List.range' 1 rest.length):=by
  rw [List.size_toArray,List.length_cons,List.range_eq_range',List.range'_succ]
 rw [ac]
 simp only [wpOpsS,List.getElem?_toArray,List.getElem?_cons_zero]
 rw [if_pos (fO _ rfl _)]
 have ad:(execOp (act ⟨fn.ntmps,[],[],none⟩ (iz args)).eval ⟨some d,.call ⟨.builtin .recover,#[],#[]⟩,ty,pos,af,none⟩).run P w= .ok .recover w:=by
  rw [eL]
  simp [execOp,resolve,invoke,builtin]
 rw [ad]
 simp only
 obtain ⟨E,G⟩:∃ E,E=({q with mode:=A} ::cs:List Frame):=⟨_,rfl⟩
 have Z:∀ X:Act→List Frame→Prop,X ((act ⟨fn.ntmps,[],[],none⟩ (iz args)).put (some d) v) E→
  (match recoverD (q::cs) with
   | some (v,I)=>X ((act ⟨fn.ntmps,[],[],none⟩ (iz args)).put (some d) v) I
   | none=>X ((act ⟨fn.ntmps,[],[],none⟩ (iz args)).put (some d) .nilIface) (q::cs)):=by
  intro X O
  rcases ab q cs hu with h1 | ⟨h1,h2,h3⟩
  rw [h1]; subst G; exact O
  rw [h1]; subst h2 h3
  have :({q with mode:=A} :Frame)=q:=by subst hu; rfl
  rw [this] at G; subst G; exact O
 refine Z (fun a I=>wpOpsS P _ _ _ a I w) ?_
 rw [gv]
 refine Fz ?_ _ _ _ ?_
 rintro ⟨a,w,h⟩
 simp only [Exit.thenS,bodyPostS] at h
 obtain ⟨_,_,h,_⟩:=h; cases h
 have h1:=wpOps_eq_wpList (P:=P) (ops:=(⟨some d,.call ⟨.builtin .recover,#[],#[]⟩,ty,pos,af,none⟩::rest).toArray) (Q:=fun e a w'=>Exit.thenS (Code.wpS P y (bodyPostS P fn q cs fun e C w'=> ∃ v,e= .returned v∧C=A∧R w')) (bodyPostS P fn q cs fun e C w'=> ∃ v,e= .returned v∧C=A∧R w') e a E w') rest 1 (fun j=>by simp [Nat.add_comm])
 rw [h1]
 unfold cW at h
 refine EC ?_ ra _ _ _ h
 intro e a w' s
 have U:∀ (e:Exit) (σ:Nat→Value) (w':World),fin P fn ⟨fn.ntmps,[],[],none⟩ (fun _ w=>R w) e σ w'→bodyPostS P fn q cs (fun e C w'=> ∃ v,e= .returned v∧C=A∧R w') e (act ⟨fn.ntmps,[],[],none⟩ σ) E w':=by
  intro e σ w' p
  cases e with
  | normal=>obtain ⟨v,M,J⟩:=p; exact ⟨rfl,A,G,v,M,v,rfl,rfl,J⟩
  | ret=>obtain ⟨v,M,J⟩:=p; exact ⟨rfl,A,G,v,M,v,rfl,rfl,J⟩
  | _=>exact p.elim
 cases e with
 | normal=>
   obtain ⟨σ,rfl,p⟩:=s
   refine wpS_of_wp ?_
   simp only [iV] at p
   unfold ca at p
   refine Code.wp_mono ?_ (wpIn_wide.1 p)
   intro e a w' s
   cases e with
   | panic c=>obtain ⟨σ,rfl,p⟩:=s; exact (p σ fun _ _=>rfl).elim
   | outgrown=>exact s.elim
   | _=>obtain ⟨σ,rfl,p⟩:=s; exact U _ σ w' p
 | panic c=>obtain ⟨σ,rfl,p⟩:=s; exact (p σ fun _ _=>rfl).elim
 | outgrown=>exact s.elim
 | ret=>obtain ⟨σ,rfl,p⟩:=s; exact U .ret σ w' p
 | exit i=>obtain ⟨σ,rfl,p⟩:=s; exact p.elim
 | goto i=>obtain ⟨σ,rfl,p⟩:=s; exact p.elim
section
variable {P:Program} {n:Nat} {F:List Nat} {σ:Nat→Value} {w:World} {fn:Func} {R:Value→World→Prop}
theorem CE {g:FuncId} {a:Array Value} {M:World→Prop} (hu:(invoke (.fn (.func g) a) #[]).run P w= .ok (.enter g a) w)
 (i:CallsD P g a .returning w fun e j w'=> ∃ v,e= .returned v∧j= .returning∧M w') (c:∀ w',M w'→∃ v,(results fn (act ⟨n,[{target:= .fn (.func g) a,args:= #[]}],F,none⟩ σ).tmps).run P w'= .ok v w'∧R v w'):
 qb ⟨n,[{target:= .fn (.func g) a,args:= #[]}],F,none⟩ (ks P fn R) .ret σ w:=by
 refine leaves_cons (by simp) hu ?_
 refine CallsD.mono i ?_
 rintro e p w' ⟨v,rfl,rfl,hm⟩
 obtain ⟨v2,h1,h2⟩:=c w' hm
 exact ⟨v2,h1,v2,U,h2⟩
theorem CF {g:FuncId} {a:Array Value} {M:World→Prop} {v:Value} (hu:(invoke (.fn (.func g) a) #[]).run P w= .ok (.enter g a) w)
 (i:CallsD P g a (.panicking [{v:=v,recovered:=false}]) w fun e j w'=> ∃ x,e= .returned x∧j= .panicking [{v:=v,recovered:=true}]∧M w') (c:∀ w',M w'→∃ v,(results fn (act ⟨n,[{target:= .fn (.func g) a,args:= #[]}],F,none⟩ σ).tmps).run P w'= .ok v w'∧R v w'):
 qb ⟨n,[{target:= .fn (.func g) a,args:= #[]}],F,none⟩ (ks P fn R) (.panic [{v:=v,recovered:=false}]) σ w:=by
 refine leaves_cons (by simp) hu ?_
 refine CallsD.mono i ?_
 rintro e p w' ⟨x,rfl,rfl,hm⟩
 obtain ⟨v2,h1,h2⟩:=c w' hm
 exact ⟨v2,h1,v2,U,h2⟩
end
end Go.Hb
end
section
namespace Go.Hb
open Go.RowKit
def hY (w:World) (B e n:Nat) (v:Value) (xs:List Value):Prop :=
 ∃ a c,v= .slice a n c∧n≤c∧(xs= []∨∃ b o cur z,a=some ⟨b,o,none⟩∧B≤b∧w.heap[b]? =some (.cells cur e z)∧∀ (j:Nat) u,xs[j]? =some u→cur[o+j]? =some u)
theorem Tg.Hx {w:World} {B e n:Nat} {v:Value} {xs:List Value} (h:Tg w B e n v xs):hY w B e n v xs:=by
 obtain ⟨a,i,rfl,s,c⟩:=h
 refine ⟨a,i,U,s,c.imp id ?_⟩
 rintro ⟨b,cur,z,p,q,A,c⟩
 exact ⟨b,0,cur,z,p,q,A,fun j u hu=>by rw [Nat.zero_add]; exact c j u hu⟩
theorem hY.cells {w:World} {B e n i:Nat} {a:Option Addr} {xs:List Value} (h:hY w B e n (.slice a n i) xs):n≤i∧aw w.heap a xs:=by
 obtain ⟨A,C,s,p,c⟩:=h
 cases s
 rcases c with h | ⟨b,o,cur,z,rfl,_,q,c⟩
 · subst h; exact ⟨p,aw.nil _ _⟩
 · refine ⟨p,fun _=>rfl,fun j u hu=> ?_⟩
   show Hb.aG w.heap b (o+j)=_
   rw [a4 q]; exact c j u hu
theorem hY.slice {w:World} {B e n:Nat} {v:Value} {xs:List Value} (h:hY w B e n v xs):∃ a c,v= .slice a n c:=let ⟨a,c,hv,_⟩:=h; ⟨a,c,hv⟩
theorem hY.md {F:Nat→Prop} {w w':World} {B e n:Nat} {v:Value} {xs:List Value} (h:hY w B e n v xs) (hm:Md F w w') (p:∀ k,F k→∀ cur z,w.heap[k]?≠some (.cells cur e z)):hY w' B e n v xs:=by
 obtain ⟨a,i,rfl,j,h | ⟨b,o,cur,z,rfl,q,c,s⟩⟩:=h
 · exact ⟨a,i,U,j,.inl h⟩
 · exact ⟨_,i,U,j,.inr ⟨b,o,cur,z,U,q,by rw [hm.fE b (Array.getElem?_eq_some_iff.1 c).1 (fun hk=>p b hk cur z c)]; exact c,s⟩⟩
theorem hY.lQ {w:World} {B e n m c:Nat} {a:Option Addr} {xs:List Value} (h:hY w B e (n+1) (.slice a (n+1) c) xs) (A:xs.length=(n+1)*m):hY w B e n (.slice (dz a c 1 m) n (c - 1)) (xs.drop m):=by
 obtain ⟨E,G,s,I,q⟩:=h
 cases s
 refine ⟨_,_,U,aa,?_⟩
 rcases q with rfl | ⟨b,o,cur,z,rfl,i,p,C⟩
 · exact .inl (by simp)
 · unfold dz
   by_cases h1:c=1
   · refine .inl (List.eq_nil_of_length_eq_zero ?_)
     obtain rfl :n=0:=aa
     rw [List.length_drop,A]; omega
   · rw [if_neg h1]
     refine .inr ⟨b,o+1 *m,cur,z,?_,i,p,fun j u hu=> ?_⟩
     · rw [Option.map_some,hZ]
     · rw [List.getElem?_drop] at hu
       have :=C _ u hu
       rw [show o+1 *m+j=o+(m+j) from by omega]; exact this
def bX (w:World) (B e:Nat) (vs:List Value) (ls:List (List Nat)):Prop :=vs.length=ls.length∧∀ (i:Nat) v l,vs[i]? =some v→ls[i]? =some l→Tg w B e l.length v (l.map aI)
theorem bX.nil (w:World) (B e:Nat):bX w B e [] []:=⟨rfl,fun i v l a=>by simp at a⟩
theorem bX.md {F:Nat→Prop} {w w':World} {B e:Nat} {vs:List Value} {ls:List (List Nat)} (h:bX w B e vs ls) (hm:Md F w w') (a:∀ k,F k→∀ cur z,w.heap[k]?≠some (.cells cur e z)):bX w' B e vs ls:=⟨h.1,fun i v l h1 h2=>(h.2 i v l h1 h2).md hm a⟩
theorem bX.wk {w w':World} {B e:Nat} {vs:List Value} {ls:List (List Nat)} (h:bX w B e vs ls) (hm:Wk w w'):bX w' B e vs ls:=h.md hm fun _ hk=>hk.elim
theorem bX.mono {w:World} {B a e:Nat} {vs:List Value} {ls:List (List Nat)} (h:bX w B e vs ls) (c:a≤B):bX w a e vs ls:=⟨h.1,fun i v l h1 h2=>(h.2 i v l h1 h2).mono c⟩
theorem bX.snoc {w:World} {B e:Nat} {vs:List Value} {ls:List (List Nat)} {v:Value} {l:List Nat} (a:bX w B e vs ls) (p:Tg w B e l.length v (l.map aI)):bX w B e (vs++ [v]) (ls++ [l]):=by
 refine ⟨by rw [List.length_append,List.length_append,a.1]; rfl,fun i q s h1 h2=> ?_⟩
 have c:=a.1
 by_cases hi:i < vs.length
 · rw [List.getElem?_append_left hi] at h1
   rw [List.getElem?_append_left aa] at h2
   exact a.2 i q s h1 h2
 · rw [List.getElem?_append_right aa] at h1
   rw [List.getElem?_append_right aa,← c] at h2
   cases hj:i - vs.length with
   | zero=>rw [hj] at h1 h2; cases h1; cases h2; exact p
   | succ j=>rw [hj] at h1; simp at h1
def eO (t ln:Nat) (e:Int):List PanicEntry:= [{v:= .iface t (.agg [.int .i64 1,.int .i64 (ln:Nat),.int .i64 e].toArray),recovered:=false}]
theorem cH {h:World} {b:Nat} {isK:Value→Prop} {f:Value→Option Value} (hm:bz h.heap b isK f):tag h b=1:=let ⟨_,h1,_⟩:=hm; Hu h1
def Wr (L:List Nat) (ms mt mc B:Nat) (w:World) (k:Nat):Prop :=B≤k∧(k=ms∨k=mt∨k=mc∨L.contains (tag w k)=true)
abbrev Mw (L:List Nat) (ms mt mc B:Nat) (w w':World):Prop :=Md (Wr L ms mt mc B w) w w'
section
variable {L:List Nat} {ms mt mc B:Nat} {w w' w'':World}
theorem Mw.trans (h:Mw L ms mt mc B w w') (a:Mw L ms mt mc B w' w''):Mw L ms mt mc B w w'':=by
 refine Md.trans' h a fun k hk hw=> ?_
 refine Classical.byContradiction fun hn=> ?_
 have :=Md.tag h hk hn
 unfold Wr at hw
 rw [this] at hw
 exact hn hw
theorem Wk.mw (h:Wk w w'):Mw L ms mt mc B w w':=h.mono fun _ _ a=>a.elim
theorem Mw.of {F:Nat→Prop} (h:Md F w w') (i:TF w L F) (c:∀ k,F k→B≤k):Mw L ms mt mc B w w':=h.mono fun k _ a=>⟨c k a,.inr (.inr (.inr (i k a)))⟩
theorem Mw.wk {a:World} (c:Wk a w) (h:Mw L ms mt mc B w w') (i:a.heap.size≤B):Wk a w':=Md.trans' c h fun k hk hw=>by have :=hw.1; omega
theorem Wr.ne (hs:tag w ms=1) (p:tag w mt=1) (j:tag w mc=1) {e:Nat} (i:L.contains (e+2)=false):∀ k,Wr L ms mt mc B w k→∀ cur z,w.heap[k]?≠some (.cells cur e z):=by
 rintro k ⟨_,rfl | rfl | rfl | h⟩ cur z c <;> have a:=c5 c
 · omega
 · omega
 · omega
 · rw [a,i] at h; cases h
end
end Go.Hb
end
section
namespace Go.Hb
open Go.RowKit
section
variable {P:Program} {N:Fm} {σ:Nat→Value} {w:World} {dst:Option Nat} {ty:TypeId} {pos :String} {af:Array Edge} {g:Option (Nat×Bool)} {x y:Operand}
theorem Ct (d:Nat) {t e:TypeId} {a:Option Addr} {n c:Nat} (hu:P.underlying t=some (.slice e)):(Op.equalIn (d+1) t (.slice a n c) (.slice none 0 0)).run P w= .ok a.isNone w:=by
 cases a <;> simp [Op.equalIn,cG hu]
theorem Cu {t e:TypeId} {a:Option Addr} {n c:Nat} (hu:P.underlying t=some (.slice e)):(Op.equal t (.slice a n c) (.slice none 0 0)).run P w= .ok a.isNone w:=Ct 9999 hu
theorem lR {t p e:TypeId} {a:Option Addr} {n c:Nat} (hu:P.underlying t=some (.slice e)) (i:ev N σ x= .slice a n c) (j:ev N σ y= .slice none 0 0):
 (execOp (ev N σ) ⟨dst,.binOp .eql t x y p,ty,pos,af,g⟩).run P w= .ok (.value (.bool a.isNone)) w:=by
 have h:(binOp .eql t (.slice a n c) (.slice none 0 0)).run P w= .ok (.bool a.isNone) w:=by
  simp only [binOp]; simp [Cu hu]
 simp [execOp,i,j,eqGuard,h]
end
def Rd (h:Array Obj) (v:Value) (n size:Nat) (xs:List Value):Prop := ∃ a c,v= .slice a n c∧aw h a xs∧xs.length=n*size∧(a=none→n=0)
theorem Rd.gl {w:World} {B e size n:Nat} {v:Value} {xs:List Value} (h:w.ownsRow B e size v n xs):Rd w.heap v n size xs:=by
 obtain ⟨a,c,rfl,h1,_,_,h3⟩:=l7 h
 refine ⟨a,c,U,h1,h.1,fun i=> ?_⟩
 subst i
 rcases h.2 with ⟨h4,h5⟩ | ⟨g,cap,cur,h4,_⟩
 · exact h5
 · simp at h4
theorem wP {w:World} {B e size n k c:Nat} {a:Option Addr} {xs:List Value} (h:w.ownsRow B e size (.slice a n c) n xs) (hk:k≤n) (q:a≠none):w.ownsRow B e size (.slice a k c) k (xs.take (k*size)):=by
 obtain ⟨i,h⟩:=h
 refine ⟨by rw [List.length_take,i]; exact Nat.min_eq_left (Nat.mul_le_mul_right _ hk),?_⟩
 rcases h with ⟨h1,_⟩ | ⟨g,cap,cur,h1,h2,h3,h4,h5,j,p⟩
 · simp only [Value.slice.injEq] at h1; exact absurd h1.1 q
 · simp only [Value.slice.injEq,true_and] at h1
   obtain ⟨rfl,rfl⟩:=h1
   refine .inr ⟨g,_,cur,U,h2,h3,aa,h5,j,?_⟩
   rw [← p,List.take_take,Nat.min_eq_left (Nat.mul_le_mul_right _ hk)]
section
variable {P:Program} {N:Fm} {σ:Nat→Value} {w:World} {dst:Option Nat} {ty:TypeId} {pos :String} {af:Array Edge} {g:Option (Nat×Bool)} {x y z u:Operand} {K:(Nat→Value)→World→Prop}
theorem G1 {t n len cap:Nat} {a:Option Addr} {k A C:IntKind} {i j m:Nat} (he:eH P t=some n) (c:ev N σ x= .slice a len cap) (p:ev N σ y= .int k (i:Nat)) (s:ev N σ z= .int A (j:Nat)) (hu:ev N σ u= .int C (m:Nat)) (h:i≤j∧j≤m∧m≤cap):
 (execOp (ev N σ) ⟨dst,.slice t x (some y) (some z) (some u),ty,pos,af,g⟩).run P w= .ok (.value (.slice (dz a m i n) (j - i) (m - i))) w:=by
 have h1:(0:Int)≤(i:Int):=aa
 have h2:(0:Int)≤(j:Int):=aa
 have h3:(0:Int)≤(m:Int):=aa
 unfold eH at he
 cases hd:P.underlying t with
 | none=>rw [hd] at he; cases he
 | some d=>
   rw [hd] at he
   cases d <;> first | (cases he; done) | skip
   rename_i e
   cases hi':P.info? e with
   | none=>simp [hi'] at he
   | some q=>
     simp only [hi',Option.map_some,Option.some.injEq] at he
     subst he
     simp only [execOp,Instr.sliceAt,Instr.slice,c,p,s,hu,Option.map_some,Instr.sliceBounds,Instr.sliceBound,asIntOf]
     simp [cG hd,eK hi',sizeOf,h.1,h.2.1,h.2.2,dz]
theorem yO {t e size bytes B n m p c s:Nat} {xs news:List Value} {a:Option Addr} (V:eo P t e size bytes=true) (J:w.ownsRow B e size (.slice (some ⟨s,0,none⟩) n p) n xs) (Y:ev N σ x= .slice (some ⟨s,0,none⟩) n p)
 (Z:ev N σ y= .slice a m c) (E:aw w.heap a news) (G:a≠none) (I:news.length=m*size) (h1:news.all Value.oneCell'=true) (U:n+m≤p)
 (k:∀ w',Md (fun q=>q=s) w w'→w'.ownsRow B e size (.slice (some ⟨s,0,none⟩) (n+m) p) (n+m) (xs++news)→K (eb σ dst (.slice (some ⟨s,0,none⟩) (n+m) p)) w'):
 bP P N ⟨dst,.call ⟨.builtin .append,#[x,y],#[t,t]⟩,ty,pos,af,g⟩ σ w K:=by
 obtain ⟨hu,i,zv,hi,ac,hs,aa,ae,ab⟩:=ly V
 obtain ⟨ad,rfl⟩:∃ ad,a=some ad:=by cases a with | none=>exact absurd rfl G | some ad=>exact ⟨ad,rfl⟩
 have hn:∀ j v,news[j]? =some v→w.cell? (ad.add j)=some v:=fun j v A=>by
  have C:news≠[]:=fun e=>by rw [e] at A; simp at A
  have h2:=E.ok C
  simp only [Option.some.injEq] at h2
  rw [h2,hZ,iZ]; exact E.aG j v A
 obtain ⟨w',O,h2,h3⟩:=Go.run_append_fits (P:=P) (w:=w) B t ty e i size hu hi hs s n p xs J ad m c news I hn (mE h1) U
 refine jh (w':=w') (v:= .slice (some ⟨s,0,none⟩) (n+m) p) ?_ (k w' ⟨h3.os,h3.output,h3.size,fun q M C=>h3.block q M (fun e=>C (Option.some.inj e))⟩ h2)
 simp [execOp,resolve,invoke,builtin,Y,Z,O]
end
end Go.Hb
end
section
namespace Go.Hb
def k4 (P:Program) (t:TypeId):Option (Nat×Nat):=
 match P.underlying t with
 | some (.array n e)=>(P.info? e).map fun i=>(n,i.size)
 | _=>none
section
variable {P:Program} {N:Fm} {σ:Nat→Value} {w:World} {dst:Option Nat} {ty:TypeId} {pos :String} {af:Array Edge} {g:Option (Nat×Bool)} {x y:Operand}
theorem je {t n c b off :Nat} {k:IntKind} {i:Int} (he:k4 P t=some (n,c)) (p:ev N σ x= .pointer (some ⟨b,off,none⟩)) (q:ev N σ y= .int k i) (a:0≤i∧i < n):
 (execOp (ev N σ) ⟨dst,.indexAddr t x y,ty,pos,af,g⟩).run P w= .ok (.value (.pointer (some ⟨b,off+i.toNat*c,none⟩))) w:=by
 unfold k4 at he
 cases hd:P.underlying t with
 | none=>rw [hd] at he; cases he
 | some d=>
   rw [hd] at he
   cases d <;> first | (cases he; done) | skip
   rename_i m e
   cases hi:P.info? e with
   | none=>simp [hi] at he
   | some j=>
     simp only [hi,Option.map_some,Option.some.injEq,Prod.mk.injEq] at he
     obtain ⟨rfl,rfl⟩:=he
     simp [execOp,Instr.indexAt,Instr.sureAddr,p,q,asIntOf,cG hd,a.1,a.2,sizeOf,eK hi,hZ]
end
theorem EY {h:Array Obj} {b:Nat} {a:List UInt8} (i:bl h b (marksOf a)) (c:UInt8):Hb.aG h b (0 +((c.toNat:Nat):Int).toNat*1)=some (.bool (decide (c∈a))):=by
 rw [i.aG,show 0 +((c.toNat:Nat):Int).toNat*1=c.toNat from by omega]; exact EV a c
theorem EZ {h:Array Obj} {b:Nat} {a:List UInt8} {c:UInt8} (i:bl h b ((marksOf a).set (0 +((c.toNat:Nat):Int).toNat*1) (.bool true))):bl h b (marksOf (a++ [c])):=by
 rw [show 0 +((c.toNat:Nat):Int).toNat*1=c.toNat from by omega,EX] at i; exact i
end Go.Hb
end
section
namespace Go.Hb
theorem D6 (c:UInt8):∀ l:List UInt8,Lib.indexByte l c=cX c l:=by
 intro l
 induction l with
 | nil=>rfl
 | cons b l p=>
   unfold Lib.indexByte
   rw [p]
   rw [show cX c (b::l)=if (b::l).idxOf c < (b::l).length then ((b::l).idxOf c:Int) else -1 from rfl,List.idxOf_cons]
   by_cases h:(b==c)=true
   · rw [if_pos h,h]; rfl
   · have i:(b==c)=false :=by simpa using h
     rw [if_neg h,i]
     simp only [cond_false,List.length_cons]
     by_cases h1:l.idxOf c < l.length
     · have a:cX c l=l.idxOf c:=if_pos h1
       rw [a,if_neg (fun j=>by have :=eq_of_beq j; omega),if_pos aa]; rfl
     · have a:cX c l= -1:=if_neg h1
       rw [a,if_pos ao,if_neg aa]
theorem GL {P:Program} {f:FuncId} {fn:Func} (i:P.funcs[f]? =some fn) (j:(fn.name== "runtime.NumGoroutine")=false) (a:fn.body.isNone=true) (hn:Extern.findNext fn=none)
 (he:Extern.find fn=some Extern.BytealgIndexByte.indexByte) (l:List UInt8) (c:UInt8) (w:World):(callFunc f #[str l,.int .u8 c.toNat]).run P w= .ok (.value (.int .i64 (cX c l))) w:=by
 rw [run_callFunc_extern i j a hn he]
 unfold str
 rw [Lib.run_indexByteString]
 have h1:((c.toNat:Int)).toNat.toUInt8=c:=UInt8.toNat_inj.1 (by simp)
 rw [h1,D6]
 rfl
theorem GK {P:Program} {f:FuncId} {fn:Func} (i:P.funcs[f]? =some fn) (j:(fn.name== "runtime.NumGoroutine")=false) (a:fn.body.isNone=true) (hn:Extern.findNext fn=none)
 (he:Extern.find fn=some Extern.BytealgCount.count) (l:List UInt8) (c:UInt8) (w:World):(callFunc f #[str l,.int .u8 c.toNat]).run P w= .ok (.value (.int .i64 (l.count c:Nat))) w:=by
 rw [run_callFunc_extern i j a hn he]
 unfold str
 rw [Lib.run_countString]
 have h1:((c.toNat:Int)).toNat.toUInt8=c:=UInt8.toNat_inj.1 (by simp)
 rw [h1]
 rfl
section
variable {P:Program} {N:Fm} {σ:Nat→Value} {w:World} {dst:Option Nat} {ty:TypeId} {pos :String} {af:Array Edge} {g:Option (Nat×Bool)}
theorem tL {f:FuncId} {a b v:Value} {args:Array Operand} {c:Array TypeId} (h:(callFunc f #[a,b]).run P w= .ok (.value v) w) (i:args.toList.map (ev N σ)= [a,b]):
 (execOp (ev N σ) ⟨dst,.call ⟨.value (.func f),args,c⟩,ty,pos,af,g⟩).run P w= .ok (.value v) w:=by
 have :args.map (ev N σ)= #[a,b]:=by rw [← Array.toList_inj,Array.toList_map,i]
 simp [execOp,resolve,ev,Deferred.ofValue,invoke,this,h]
end
end Go.Hb
end
section
namespace Go.Hb
open Go.RowKit
theorem GQ {L:List Value} {o:Nat} {v:Value} (h:o < L.length):(L.set o v).take (o+1)=L.take o++ [v]:=by
 rw [List.set_eq_take_append_cons_drop,if_pos h,List.take_append,List.length_take,Nat.min_eq_left aa,Nat.add_sub_cancel_left,List.take_of_length_le (by rw [List.length_take]; omega)]
 rfl
theorem GP {L:List Value} {o m:Nat} {v:Value} (h:o < m):(L.set o v).drop m=L.drop m:=by
 rw [List.drop_set,if_pos h]
theorem xp (b e:Nat):∀ (vs:List Value) (o:Nat) (L:List Value) (w:World),w.heap[b]? =some (.cells L.toArray e (0,0))→o+vs.length≤L.length→
 (w.setCells b o vs).heap[b]? =some (.cells (L.take o++vs++L.drop (o+vs.length)).toArray e (0,0))∧Md (fun k=>k=b) w (w.setCells b o vs):=by
 intro vs
 induction vs with
 | nil=>intro o L w a _; exact ⟨by simpa [World.setCells] using a,Md.refl _ _⟩
 | cons v r q=>
   intro o L w a i
   simp only [List.length_cons] at i
   have h1:(w.setCell ⟨b,o,none⟩ v).heap[b]? =some (.cells (L.set o v).toArray e (0,0)):=by
    have j:=(Array.getElem?_eq_some_iff.1 a).1
    have p:w.heap[b]= .cells L.toArray e (0,0):=(Array.getElem?_eq_some_iff.1 a).2
    simp only [World.setCell]
    rw [Array.getElem?_eq_getElem (by simpa using j),Array.getElem_modify]
    simp [p,List.setIfInBounds_toArray]
   have c:Md (fun k=>k=b) w (w.setCell ⟨b,o,none⟩ v):=⟨rfl,rfl,by simp [World.setCell],fun k _ hk=>Below.heap_setCell w _ v k hk⟩
   obtain ⟨h2,h3⟩:=q (o+1) (L.set o v) _ h1 (by rw [List.length_set]; omega)
   refine ⟨?_,Md.trans c h3⟩
   show ((w.setCell ⟨b,o,none⟩ v).setCells b (o+1) r).heap[b]? =_
   rw [h2,GQ aa,GP aa,List.length_cons,show o+1 +r.length=o+(r.length+1) from by omega]
   simp
section
variable {P:Program} {N:Fm} {σ:Nat→Value} {w:World} {ty:TypeId} {pos :String} {af:Array Edge} {g:Option (Nat×Bool)} {x:Operand} {K:(Nat→Value)→World→Prop}
theorem AT {t e B n k i A m:Nat} {a:Option Addr} {xs:List Value} {z:Value} (ad:P.underlying t=some (.slice e)) (ag:zeroV P e=some z) (h1:z.oneCell'=true) (V:w.ownsRow B e 1 (.slice a n i) n xs)
 (C:ev N σ x= .slice (dz a i k 1) m A) (hm:m=n - k) (hk:k < n) (ah:∀ w',Md (fun q=>(Value.slice a n i).ownBlock=some q) w w'→w'.ownsRow B e 1 (.slice a n i) n (xs.take k++List.replicate (n - k) z)→K σ w'):
 bP P N ⟨none,.call ⟨.builtin .clear,#[x],#[t]⟩,ty,pos,af,g⟩ σ w K:=by
 obtain ⟨G,h⟩:=V
 subst hm
 rcases h with ⟨h,rfl⟩ | ⟨c,ai,cur,h,I,M,hle,J,ac,ae⟩
 · omega
 · simp only [Value.slice.injEq,true_and] at h
   obtain ⟨rfl,rfl⟩:=h
   have ab:dz (some ⟨c,0,none⟩) i k 1=some ⟨c,k,none⟩:=by
    unfold dz; rw [if_neg aa]; simp [hZ]
   rw [ab] at C
   have s:w.heap[c]? =some (.cells cur.toList.toArray e (0,0)):=by simpa using M
   have p:cur.toList.length=i*1:=by rw [Array.length_toList]; exact ac
   have Z:=Lib.run_clear_slice (P:=P) w t e ty z ad (fun w=>pL ag w) (by cases z <;> first | rfl | (cases h1; done)) h1 c k (n - k) A aa
    (fun j O=>by rw [iZ,a4 s]; simp; omega) (fun j O=>by simp only [World.frozen?,show w.heap[c]? =_ from s]; simp)
   obtain ⟨h2,h3⟩:=xp c e (List.replicate (n - k) z) k cur.toList w s (by rw [List.length_replicate,p]; omega)
   refine jh (w':=w.setCells c k (List.replicate (n - k) z)) (v:= .tuple #[]) ?_ (ah _ (h3.mono fun q _ Y=>by subst Y; rfl) ⟨?_,.inr ⟨c,i,_,U,I,h2,hle,J,?_,?_⟩⟩)
   · simp [execOp,resolve,invoke,builtin,C,Z]
   · rw [List.length_append,List.length_take,List.length_replicate,G]; omega
   · simp only [List.size_toArray,List.length_append,List.length_take,List.length_drop,List.length_replicate,p]; omega
   · rw [List.length_replicate,Nat.mul_one]
     have E:(cur.toList.take k++List.replicate (n - k) z++cur.toList.drop (k+(n - k))).toArray.toList=(cur.toList.take k++List.replicate (n - k) z)++cur.toList.drop (k+(n - k)):=rfl
     rw [E,List.take_append,List.length_append,List.length_take,List.length_replicate,p,Nat.min_eq_left aa,show n - (k+(n - k))=0 by omega,List.take_zero,List.append_nil,List.take_of_length_le (by rw [List.length_append,List.length_take,List.length_replicate,p]; omega)]
     rw [← ae,List.take_take,Nat.mul_one,Nat.min_eq_left aa]
theorem AU {t e B n c A m:Nat} {a:Option Addr} {xs:List Value} {z:Value} (ae:P.underlying t=some (.slice e)) (ah:zeroV P e=some z) (h1:z.oneCell'=true) (Y:w.ownsRow B e 1 (.slice a n c) n xs) (J:a≠none)
 (C:ev N σ x= .slice (dz a c n 1) m A) (hm:0 < m∧n+m≤c) (ai:∀ w',Md (fun q=>(Value.slice a n c).ownBlock=some q) w w'→w'.ownsRow B e 1 (.slice a n c) n xs→K σ w'):
 bP P N ⟨none,.call ⟨.builtin .clear,#[x],#[t]⟩,ty,pos,af,g⟩ σ w K:=by
 obtain ⟨G,h⟩:=Y
 rcases h with ⟨h,rfl⟩ | ⟨i,aj,cur,h,I,O,hle,M,ad,ag⟩
 · simp only [Value.slice.injEq] at h; exact absurd h.1 J
 · simp only [Value.slice.injEq,true_and] at h
   obtain ⟨rfl,rfl⟩:=h
   have ac:dz (some ⟨i,0,none⟩) c n 1=some ⟨i,n,none⟩:=by
    unfold dz; rw [if_neg aa]; simp [hZ]
   rw [ac] at C
   have s:w.heap[i]? =some (.cells cur.toList.toArray e (0,0)):=by simpa using O
   have p:cur.toList.length=c*1:=by rw [Array.length_toList]; exact ad
   have ab:=Lib.run_clear_slice (P:=P) w t e ty z ae (fun w=>pL ah w) (by cases z <;> first | rfl | (cases h1; done)) h1 i n m A hm.1
    (fun j V=>by rw [iZ,a4 s]; simp; omega) (fun j V=>by simp only [World.frozen?,show w.heap[i]? =_ from s]; simp)
   obtain ⟨h2,h3⟩:=xp i e (List.replicate m z) n cur.toList w s (by rw [List.length_replicate,p]; omega)
   refine jh (w':=w.setCells i n (List.replicate m z)) (v:= .tuple #[]) ?_ (ai _ (h3.mono fun q _ Z=>by subst Z; rfl) ⟨G,.inr ⟨i,c,_,U,I,h2,hle,M,?_,?_⟩⟩)
   · simp [execOp,resolve,invoke,builtin,C,ab]
   · simp only [List.size_toArray,List.length_append,List.length_take,List.length_drop,List.length_replicate,p]; omega
   · rw [List.length_replicate,Nat.mul_one]
     have E:(cur.toList.take n++List.replicate m z++cur.toList.drop (n+m)).toArray.toList=cur.toList.take n++(List.replicate m z++cur.toList.drop (n+m)):=List.append_assoc _ _ _
     rw [E,List.take_append,List.length_take,p,Nat.min_eq_left aa,Nat.sub_self,List.take_zero,List.append_nil,List.take_of_length_le (by rw [List.length_take]; omega),← ag,Nat.mul_one]
end
end Go.Hb
end
section
namespace Go.Hb
open Go.RowKit
def pT (P:Program) (t:TypeId):Option (List Value):=
 match P.info? t,P.underlying t with
 | some it,some (.array _ e)=>
   match it.zero,P.info? e with
   | some z,some ie=>if ie.size=1 then some z.cells.toList else none
   | _,_=>none
 | _,_=>none
def nj:List Value→List (Nat×Value)→Option (List Value)
 | a,[]=>some a
 | a,(i,v)::r=>if (v.oneCell' && Nat.blt i a.length)=true then nj (a.set i v) r else none
theorem Gb {a L:List Value} {ps:List (Nat×Value)} (h:nj a ps=some L):Instr.fill (fun i=>some (i*1,1)) a.toArray ps=some L.toArray:=by
 induction ps generalizing a with
 | nil=>simp only [nj,Option.some.injEq] at h; subst h; rfl
 | cons q r p=>
   obtain ⟨i,v⟩:=q
   rw [nj] at h
   split at h
   · rename_i c
     simp only [Bool.and_eq_true] at c
     have j:=jG c.1
     have s:i < a.length:=Nat.le_of_ble_eq_true c.2
     simp only [Instr.fill,j,Nat.mul_one]
     rw [if_neg (by simp; omega)]
     have :=p h
     simp only [Nat.mul_one] at this
     rw [← this]
     simp
   · cases h
section
variable {P:Program} {N:Fm} {σ:Nat→Value} {w:World} {dst:Option Nat} {ty:TypeId} {pos :String} {af:Array Edge} {g:Option (Nat×Bool)}
theorem sR {t:TypeId} {parts:Array (Nat×Operand)} {a L:List Value} {ps:List (Nat×Value)} (h:pT P t=some a) (hp:parts.toList.map (fun q=>(q.1,ev N σ q.2))=ps) (c:nj a ps=some L):
 (execOp (ev N σ) ⟨dst,.build t parts,ty,pos,af,g⟩).run P w= .ok (.value (.agg L.toArray)) w:=by
 unfold pT at h
 split at h
 · rename_i it n e hi hu
   split at h
   · rename_i z p j he
     split at h
     · rename_i hs
       simp only [Option.some.injEq] at h
       subst h
       have i:P.built t (parts.map (fun q=>(q.1,ev N σ q.2))).toList=some L.toArray:=by
        have :=Gb c
        simp only [Array.toArray_toList] at this
        simp only [Program.built,hi,hu,j,he,hs,Array.toList_map,hp]; exact this
       simp [execOp,run_build w t _ _ i]
     · cases h
   · cases h
 · cases h
end
end Go.Hb
end
section
namespace Go.Hb
abbrev bR:Type :=Tx×List Nat
noncomputable def du (F:aM) (row:List Tx):Except Nat bR:=
 if row.length≠1 then .error 111
 else if (a8 (row.getD 0 [])).2.2.2≠0 then .error (a8 (row.getD 0 [])).2.2.2
 else if eF (a8 (row.getD 0 [])).1=false∨(a8 (row.getD 0 [])).1= [] then .error 21
 else if 64 < (a8 (row.getD 0 [])).1.length then .error 22
 else if (a8 (row.getD 0 [])).2.2.1=false then .ok ((a8 (row.getD 0 [])).1,[])
 else match eh F.kind F.aliases (a8 (row.getD 0 [])).2.1 with
  | .error e=> .error e
  | .ok set =>if set.all (c9 F)=true then .ok ((a8 (row.getD 0 [])).1,set) else .error 120
section
variable {F:aM} {row:List Tx}
theorem uo (h:row.length≠1):du F row= .error 111:=if_pos h
theorem qw (h:row.length=1) (h1:(a8 (row.getD 0 [])).2.2.2≠0):du F row= .error (a8 (row.getD 0 [])).2.2.2:=by
 unfold du; rw [if_neg (fun h2=>h2 h),if_pos h1]
variable (h:row.length=1) (h1:(a8 (row.getD 0 [])).2.2.2=0)
include h h1
theorem uq (h2:eF (a8 (row.getD 0 [])).1=false∨(a8 (row.getD 0 [])).1= []):du F row= .error 21:=by
 unfold du; rw [if_neg (fun h2=>h2 h),if_neg (fun h2=>h2 h1),if_pos h2]
variable (h2:eF (a8 (row.getD 0 [])).1=true) (h3:(a8 (row.getD 0 [])).1≠[])
include h2 h3
omit h h1 in
theorem mT:¬(eF (a8 (row.getD 0 [])).1=false∨(a8 (row.getD 0 [])).1= []):=fun h=>h.elim (fun h=>by rw [h2] at h; cases h) h3
theorem Cg (h4:64 < (a8 (row.getD 0 [])).1.length):du F row= .error 22:=by
 unfold du; rw [if_neg (fun h2=>h2 h),if_neg (fun h2=>h2 h1),if_neg (mT h2 h3),if_pos h4]
variable (h4:¬64 < (a8 (row.getD 0 [])).1.length)
include h4
theorem ur (h5:(a8 (row.getD 0 [])).2.2.1=false):du F row= .ok ((a8 (row.getD 0 [])).1,[]):=by
 unfold du; rw [if_neg (fun h2=>h2 h),if_neg (fun h2=>h2 h1),if_neg (mT h2 h3),if_neg h4,if_pos h5]
variable (h5:(a8 (row.getD 0 [])).2.2.1=true)
include h5
theorem Ch {e:Nat} (a:eh F.kind F.aliases (a8 (row.getD 0 [])).2.1= .error e):du F row= .error e:=by
 unfold du; rw [if_neg (fun h2=>h2 h),if_neg (fun h2=>h2 h1),if_neg (mT h2 h3),if_neg h4,if_neg (by rw [h5]; exact Bool.noConfusion),a]
theorem Ci {set :List Nat} {i:Nat} (a:eh F.kind F.aliases (a8 (row.getD 0 [])).2.1= .ok set) (hi:i < set.length) (c:c9 F (set.getD i 0)=false):du F row= .error 120:=by
 unfold du; rw [if_neg (fun h2=>h2 h),if_neg (fun h2=>h2 h1),if_neg (mT h2 h3),if_neg h4,if_neg (by rw [h5]; exact Bool.noConfusion),a]
 exact if_neg (by rw [sH 0 hi c]; exact Bool.noConfusion)
theorem uu {set :List Nat} (a:eh F.kind F.aliases (a8 (row.getD 0 [])).2.1= .ok set) (c:∀ i,i < set.length→c9 F (set.getD i 0)=true):du F row= .ok ((a8 (row.getD 0 [])).1,set):=by
 unfold du; rw [if_neg (fun h2=>h2 h),if_neg (fun h2=>h2 h1),if_neg (mT h2 h3),if_neg h4,if_neg (by rw [h5]; exact Bool.noConfusion),a]
 exact if_pos (sI 0 c)
end
noncomputable def dw (F:aM) (eof:Nat):Nat→List Rw→Except (Nat×Nat) (List bR)
 | 0,[]=> .ok []
 | _+1,[]=> .error (eof,116)
 | 0,(ln,_)::_=> .error (ln,116)
 | n+1,(ln,row)::rows=>match du F row with
   | .error e=> .error (ln,e)
   | .ok x=>match dw F eof n rows with
     | .error e=> .error e
     | .ok r=> .ok (x::r)
noncomputable def ef (F:aM) (t:Tx):Except (Nat×Nat) (List bR):=
 if 65536 < t.length then .error (0,10)
 else match bY t with
  | []=> .error ((a7 t).length+1,116)
  | (ln,row)::rows=>if row.length≠1 then .error (ln,111) else match cR (row.getD 0 []) 8192 with
    | .error e=> .error (ln,e)
    | .ok n=>dw F ((a7 t).length+1) n rows
def eU (F:aM) (eof:Nat) (T:Except (Nat×Nat) (List bR)) (xs:List bR) (n:Nat) (rows:List Rw):Prop :=
 T=match dw F eof n rows with
  | .error e=> .error e
  | .ok r=> .ok (xs++r)
section
variable {F:aM} {eof n ln:Nat} {T:Except (Nat×Nat) (List bR)} {xs:List bR} {rows:List Rw} {row:List Tx}
theorem eU.start:eU F eof (dw F eof n rows) [] n rows:=by
 unfold eU; cases dw F eof n rows <;> rfl
theorem eU.done (h:eU F eof T xs 0 []):T= .ok xs:=by
 unfold eU at h; rw [dw] at h; simpa using h
theorem eU.ends (h:eU F eof T xs n []) (hn:0 < n):T= .error (eof,116):=by
 obtain ⟨m,rfl⟩:∃ m,n=m+1:=⟨n - 1,aa⟩
 unfold eU at h; rw [dw] at h; exact h
theorem eU.more (h:eU F eof T xs 0 ((ln,row)::rows)):T= .error (ln,116):=by
 unfold eU at h; rw [dw] at h; exact h
theorem eU.bad {e:Nat} (h:eU F eof T xs n ((ln,row)::rows)) (hn:0 < n) (he:du F row= .error e):T= .error (ln,e):=by
 obtain ⟨m,rfl⟩:∃ m,n=m+1:=⟨n - 1,aa⟩
 unfold eU at h; rw [dw,he] at h; exact h
theorem eU.step {x:bR} (h:eU F eof T xs n ((ln,row)::rows)) (hn:0 < n) (he:du F row= .ok x):eU F eof T (xs++ [x]) (n - 1) rows:=by
 obtain ⟨m,rfl⟩:∃ m,n=m+1:=⟨n - 1,aa⟩
 unfold eU at h ⊢; rw [dw,he] at h
 rw [h,Nat.add_sub_cancel]
 simp only
 cases dw F eof m rows <;> simp
end
section
variable {F:aM} {t:Tx}
theorem mR (h:65536 < t.length):ef F t= .error (0,10):=if_pos h
theorem ue (h:¬65536 < t.length) (h1:bY t= []):ef F t= .error ((a7 t).length+1,116):=by
 unfold ef; rw [if_neg h,h1]
variable {ln:Nat} {row:List Tx} {rows:List Rw} (h:¬65536 < t.length) (h1:bY t=(ln,row)::rows)
include h h1
theorem ud (h2:row.length≠1):ef F t= .error (ln,111):=by
 unfold ef; rw [if_neg h,h1]; exact if_pos h2
theorem uf (h2:row.length=1) {e:Nat} (h3:cR (row.getD 0 []) 8192= .error e):ef F t= .error (ln,e):=by
 unfold ef; rw [if_neg h,h1]; simp only; rw [if_neg (fun h=>h h2),h3]
theorem ou (h2:row.length=1) {n:Nat} (h3:cR (row.getD 0 []) 8192= .ok n):ef F t=dw F ((a7 t).length+1) n rows:=by
 unfold ef; rw [if_neg h,h1]; simp only; rw [if_neg (fun h=>h h2),h3]
end
theorem qR {α:Type} {a b:List α} {i:Nat} {d:α} (h:i < a.length):(a++b).getD i d=a.getD i d:=by
 rw [List.getD_eq_getElem?_getD,List.getD_eq_getElem?_getD,List.getElem?_append_left h]
def idxs (s:Tx) (xs:List bR):List Nat:=(List.range xs.length).filter fun i=>decide ((xs.getD i ([],[])).1=s)
theorem qW (s:Tx) (xs:List bR) (x:bR):idxs s (xs++ [x])=idxs s xs++(if x.1=s then [xs.length] else []):=by
 unfold idxs
 rw [List.length_append,List.length_singleton,List.range_succ,List.filter_append]
 congr 1
 · refine List.filter_congr fun i hi=> ?_
   have hi:i < xs.length:=by simpa using hi
   rw [qR hi]
 · by_cases a:x.1=s <;> simp [List.filter,a]
theorem vt (s:Tx) (xs:List bR):(idxs s xs).length≤xs.length:=by
 unfold idxs; have :=List.length_filter_le (fun i=>decide ((xs.getD i ([],[])).1=s)) (List.range xs.length); simpa using this
theorem uw {F:aM} {eof:Nat} :∀ {n:Nat} {rows:List Rw} {r:List bR},dw F eof n rows= .ok r→r.length=n∧rows.length=n:=by
 intro n
 induction n with
 | zero=>
   intro rows r h
   cases rows with
   | nil=>rw [dw] at h; cases h; exact ⟨rfl,rfl⟩
   | cons q rows=>rw [dw] at h; cases h
 | succ n a=>
   intro rows r h
   cases rows with
   | nil=>rw [dw] at h; cases h
   | cons q rows=>
     rw [dw] at h
     split at h
     · cases h
     · split at h
       · cases h
       · rename_i h2
         cases h
         have :=a h2
         simp only [List.length_cons]; omega
end Go.Hb
end
section
namespace Go.Hb
section
variable {P:Program} {N:Fm} {σ:Nat→Value} {w:World} {dst:Option Nat} {ty:TypeId} {pos :String} {af:Array Edge} {g:Option (Nat×Bool)} {x:Operand}
theorem yT {t n c b:Nat} (he:k4 P t=some (n,c)) (a:ev N σ x= .pointer (some ⟨b,0,none⟩)):
 (execOp (ev N σ) ⟨dst,.slice t x none none none,ty,pos,af,g⟩).run P w= .ok (.value (.slice (some ⟨b,0,none⟩) n n)) w:=by
 unfold k4 at he
 cases hd:P.underlying t with
 | none=>rw [hd] at he; cases he
 | some d=>
   rw [hd] at he
   cases d <;> first | (cases he; done) | skip
   rename_i m e
   cases hi:P.info? e with
   | none=>simp [hi] at he
   | some j=>
     simp only [hi,Option.map_some,Option.some.injEq,Prod.mk.injEq] at he
     obtain ⟨rfl,rfl⟩:=he
     simp [execOp,Instr.sliceAt,Instr.sureAddr,Instr.sliceBounds,a,cG hd,sizeOf,eK hi,hZ]
def qC (P:Program) (t f:Nat):Option (Nat×Nat):=
 match P.underlying t with
 | some (.struct a)=>(a[f]?).map fun d=>(d.type,d.offset)
 | _=>none
theorem CY {t f c off n:Nat} {cs vs:List Value} (h:qC P t f=some (c,off)) (a:cj P c=some (some n)) (q:ev N σ x= .agg cs.toArray) (p:(cs.drop off).take n=vs):
 (execOp (ev N σ) ⟨dst,.field t x f,ty,pos,af,g⟩).run P w= .ok (.value (.agg vs.toArray)) w:=by
 subst p
 unfold qC at h
 cases hd:P.underlying t with
 | none=>rw [hd] at h; cases h
 | some d=>
   rw [hd] at h
   cases d <;> first | (cases h; done) | skip
   rename_i s
   simp only [Option.map_eq_some_iff] at h
   obtain ⟨fd,j,he⟩:=h
   cases he
   unfold cj at a
   cases hd2:P.underlying fd.type with
   | none=>rw [hd2] at a; cases a
   | some d2=>
     rw [hd2] at a
     cases hi:P.info? fd.type with
     | none=>simp [Program.underlying,hi] at hd2
     | some i=>
       rw [hi] at a
       have A:cs.toArray.extract fd.offset (fd.offset+n)=((cs.drop fd.offset).take n).toArray:=by simp
       cases d2 <;> first
        | (cases a; done)
        | (simp only [Option.map_some,Option.some.injEq] at a; subst a
           simp [execOp,Instr.field,cG hd,j,q,asAgg,part,isAgg,cG hd2,sizeOf,eK hi])
end
end Go.Hb
end
section
namespace Go.Hb
def dB (ls:List Tx):Tx:=ls.flatMap fun l=>l++ [13,10]
theorem qZ (l:Tx) (ls:List Tx):dB (l::ls)=l++13::10::dB ls:=by simp [dB]
theorem vE (a b:List Tx):dB (a++b)=dB a++dB b:=by simp [dB]
theorem EI:∀ (l cur r:Tx),10∉l→cI cur (l++10::r)=ew (cur++l)::cI [] r:=by
 intro l
 induction l with
 | nil=>intro cur r _; rw [List.nil_append,ri,List.append_nil]
 | cons b l a=>
   intro cur r h
   simp only [List.mem_cons,not_or] at h
   rw [List.cons_append,oQ (fun e=>h.1 e.symm),a _ _ h.2,List.append_assoc]; rfl
theorem Cd (l:Tx):ew (l++ [13])=l:=by
 rw [qv (by simp) (by simp [List.getD_eq_getElem?_getD])]; simp
theorem EG:∀ (ls:List Tx) (r:Tx),(∀ l∈ls,10∉l)→cI [] (dB ls++r)=ls++cI [] r:=by
 intro ls
 induction ls with
 | nil=>intro r _; rfl
 | cons l ls c=>
   intro r h
   rw [qZ,show (l++13::10::dB ls)++r=(l++ [13])++10::(dB ls++r) by simp,EI _ _ _ (by simp only [List.mem_append,List.mem_singleton,not_or]; exact ⟨h l (by simp),ao⟩),List.nil_append,Cd,c r (fun l a=>h l (by simp [a]))]; rfl
theorem uk (l:Tx):∀ x∈ew l,x∈l:=by
 intro x a; unfold ew at a; split at a
 · exact List.mem_of_mem_take a
 · exact a
theorem EK:∀ (l cur x:Tx),10∉cur→x∈cI cur l→10∉x:=by
 intro l
 induction l with
 | nil=>
   intro cur x a h
   unfold cI at h
   split at h
   · cases h
   · simp only [List.mem_singleton] at h; subst h; exact fun h=>a (uk _ _ h)
 | cons b r c=>
   intro cur x a h
   unfold cI at h
   split at h
   · rcases List.mem_cons.1 h with rfl | h
     · exact fun h=>a (uk _ _ h)
     · exact c [] x (by simp) h
   · rename_i i
     exact c _ x (by simp only [List.mem_append,List.mem_singleton,not_or]; exact ⟨a,fun e=>i e.symm⟩) h
theorem EB {t x:Tx} (h:x∈a7 t):10∉x:=EK _ _ _ (by simp) h
theorem Ez {ls:List Tx} {r:Tx} (h:∀ l∈ls,10∉l) (hm:jz (dB ls++r)=false):a7 (dB ls++r)=ls++cI [] r:=by
 unfold a7; rw [xV hm,EG ls r h]
theorem EA {ls:List Tx} (h:∀ l∈ls,10∉l) (hm:jz (dB ls)=false):a7 (dB ls)=ls:=by
 have :=Ez (r:= []) h (by rw [List.append_nil]; exact hm)
 rwa [List.append_nil,oR,List.append_nil] at this
theorem C0:∀ (x cur:Tx),(∀ b∈x,gy b=false)→cur++x≠[]→bg cur x= [cur++x]:=by
 intro x
 induction x with
 | nil=>intro cur _ h; rw [List.append_nil] at h ⊢; exact qG h
 | cons b x i=>
   intro cur h h1
   rw [oF (h b (by simp)),i _ (fun c a=>h c (by simp [a])) (by simp),List.append_assoc]; rfl
theorem CZ:∀ (l cur x:Tx),(∀ b∈cur,gy b=false)→x∈bg cur l→∀ b∈x,gy b=false :=by
 intro l
 induction l with
 | nil=>
   intro cur x i h
   unfold bg at h
   split at h
   · cases h
   · simp only [List.mem_singleton] at h; subst h; exact i
 | cons b r j=>
   intro cur x i h
   unfold bg at h
   split at h
   · split at h
     · exact j [] x (by simp) h
     · rcases List.mem_cons.1 h with rfl | h
       · exact i
       · exact j [] x (by simp) h
   · rename_i p
     refine j _ x (fun c a=> ?_) h
     rcases List.mem_append.1 a with a | a
     · exact i c a
     · simp only [List.mem_singleton] at a; subst a; simpa using p
theorem C1:∀ (l cur x:Tx),x∈bg cur l→∀ b∈x,b∈cur∨b∈l:=by
 intro l
 induction l with
 | nil=>
   intro cur x h b a
   unfold bg at h
   split at h
   · cases h
   · simp only [List.mem_singleton] at h; subst h; exact .inl a
 | cons c r i=>
   intro cur x h b a
   unfold bg at h
   split at h
   · split at h
     · rcases i [] x h b a with h | h
       · cases h
       · exact .inr (by simp [h])
     · rcases List.mem_cons.1 h with rfl | h
       · exact .inl a
       · rcases i [] x h b a with h | h
         · cases h
         · exact .inr (by simp [h])
   · rcases i _ x h b a with h | h
     · rcases List.mem_append.1 h with h | h
       · exact .inl h
       · simp only [List.mem_singleton] at h; subst h; exact .inr (by simp)
     · exact .inr (by simp [h])
def jY (x:Tx):Prop :=x≠[]∧(∀ b∈x,gy b=false)∧kJ x=false∧10∉x
theorem jY.row {x:Tx} (h:jY x) (n:Nat):fM x n= [(n,[x])]:=by
 have h1:gL (bg [] x)= [x]:=by
  rw [C0 x [] h.2.1 (by simpa using h.1)]
  unfold gL; simp [h.2.2.1]
 unfold fM; rw [h1]; rfl
theorem Ef {f:List Tx} {x:Tx} (h:x∈gL f):kJ x=false :=by
 unfold gL at h
 induction f with
 | nil=>cases h
 | cons a f i=>
   rw [List.takeWhile_cons] at h
   split at h
   · rename_i c
     rcases List.mem_cons.1 h with rfl | h
     · simpa using c
     · exact i h
   · cases h
theorem jY.of {t:Tx} {q:Rw} {x:Tx} (h:q∈bY t) (a:x∈q.2):jY x:=by
 obtain ⟨_,_,_,l,i,j⟩:=xf _ _ _ h
 rw [j] at a
 have hm:=vG a
 refine ⟨(oE _ _ _ hm).1,CZ _ _ _ (by simp) hm,Ef a,fun c=> ?_⟩
 rcases C1 _ _ _ hm 10 c with h | h
 · cases h
 · exact EB i h
theorem GC:∀ (xs:List Tx) (n:Nat),(∀ x∈xs,jY x)→fN n xs=(xs.zipIdx n).map fun p=>(p.2,[p.1]):=by
 intro xs
 induction xs with
 | nil=>intro n _; rfl
 | cons x xs c=>
   intro n h
   rw [fN,(h x (by simp)).row,c _ (fun y a=>h y (by simp [a]))]; rfl
theorem Cp {F:aM} {eof:Nat} :∀ {n:Nat} {rows:List Rw} {r:List bR},dw F eof n rows= .ok r→rows.map (fun q=>du F q.2)=r.map .ok:=by
 intro n
 induction n with
 | zero=>
   intro rows r h
   cases rows with
   | nil=>rw [dw] at h; cases h; rfl
   | cons q rows=>rw [dw] at h; cases h
 | succ n a=>
   intro rows r h
   cases rows with
   | nil=>rw [dw] at h; cases h
   | cons q rows=>
     rw [dw] at h
     split at h
     · cases h
     · rename_i he
       split at h
       · cases h
       · rename_i h2
         cases h
         rw [List.map_cons,List.map_cons,he,a h2]
theorem Cn {F:aM} {eof:Nat} :∀ {rows:List Rw} {r:List bR},rows.map (fun q=>du F q.2)=r.map .ok→dw F eof rows.length rows= .ok r:=by
 intro rows
 induction rows with
 | nil=>intro r h; cases r with
   | nil=>rw [List.length_nil,dw]
   | cons x r=>cases h
 | cons q rows a=>
   intro r h
   cases r with
   | nil=>cases h
   | cons x r=>
     rw [List.map_cons,List.map_cons,List.cons.injEq] at h
     rw [List.length_cons,dw,h.1,a h.2]
def cV:Nat→Nat→Tx
 | 0,_=> []
 | f+1,m=>if m=0 then [] else UInt8.ofNat (48 +m % 10)::cV f (m / 10)
def fV (n:Nat):Tx:=if n=0 then [48] else (cV n n).reverse
theorem BJ:∀ (f g m:Nat),m≤f→m≤g→cV f m=cV g m:=by
 intro f
 induction f with
 | zero=>intro g m a _; obtain rfl :m=0:=aa
         cases g <;> simp [cV]
 | succ f c=>
   intro g m a i
   cases g with
   | zero=>obtain rfl :m=0:=aa
           simp [cV]
   | succ g=>
     rw [cV,cV]
     split
     · rfl
     · rw [c g (m / 10) aa aa]
theorem mM {m:Nat} (h:m≠0):cV m m=UInt8.ofNat (48 +m % 10)::cV (m / 10) (m / 10):=by
 obtain ⟨k,rfl⟩:∃ k,m=k+1:=⟨m - 1,aa⟩
 rw [cV,if_neg h,BJ k ((k+1) / 10) _ aa (Nat.le_refl _)]
theorem tY:cV 0 0= []:=rfl
theorem tX:∀ (f m:Nat),(cV f m).length≤f:=by
 intro f
 induction f with
 | zero=>intro m; simp [cV]
 | succ f a=>intro m; rw [cV]; split
             · simp
             · have :=a (m / 10); simp only [List.length_cons]; omega
theorem qp {d:Nat} (h:d < 10):(UInt8.ofNat (48 +d)).toNat=48 +d:=by simp; omega
theorem BI:∀ (f m:Nat) (b:UInt8),b∈cV f m→48≤b.toNat∧b.toNat≤57:=by
 intro f
 induction f with
 | zero=>intro m b h; cases h
 | succ f a=>
   intro m b h
   rw [cV] at h
   split at h
   · cases h
   · rcases List.mem_cons.1 h with rfl | h
     · rw [qp aa]; omega
     · exact a _ b h
theorem BQ (s:Tx) (b:UInt8):dt (s++ [b])=dt s*10 +(b.toNat - 48):=by
 unfold dt; rw [List.foldl_append]; rfl
theorem BL:∀ (k m:Nat),m≤k→dt (cV m m).reverse=m:=by
 intro k
 induction k with
 | zero=>intro m h; obtain rfl :m=0:=aa
         rfl
 | succ k a=>
   intro m h
   by_cases hm:m=0
   · subst hm; rfl
   · rw [mM hm,List.reverse_cons,BQ,a (m / 10) aa,qp aa]; omega
theorem BK:∀ (k m:Nat),m≤k→m≠0→((cV m m).reverse.getD 0 0).toNat≠48:=by
 intro k
 induction k with
 | zero=>intro m h c; omega
 | succ k a=>
   intro m h hm
   rw [mM hm,List.reverse_cons]
   by_cases hd:m / 10=0
   · rw [hd,tY]
     show (UInt8.ofNat (48 +m % 10)).toNat≠48
     rw [qp aa]; omega
   · have h1:0 < (cV (m / 10) (m / 10)).reverse.length:=by rw [mM hd]; simp
     rw [qR h1]
     exact a _ aa hd
theorem ub (n:Nat):dt (fV n)=n:=by
 unfold fV; split
 · rename_i h; subst h; rfl
 · exact BL n n (Nat.le_refl _)
theorem mN {n:Nat} {b:UInt8} (h:b∈fV n):48≤b.toNat∧b.toNat≤57:=by
 unfold fV at h; split at h
 · simp only [List.mem_singleton] at h; subst h; decide
 · exact BI _ _ b (List.mem_reverse.1 h)
theorem mO (n:Nat):fV n≠[]:=by
 unfold fV; split
 · simp
 · rename_i h; rw [mM h]; simp
theorem BN (n:Nat):(fV n).length≤n+1:=by
 unfold fV; split
 · simp
 · rw [List.length_reverse]; have :=tX n n; omega
theorem BM (n:Nat):¬kF (fV n):=by
 rintro (h | ⟨h,h1⟩)
 · exact mO n h
 · unfold fV at h h1
   split at h
   · simp at h
   · rename_i a; rw [if_neg a] at h1; exact BK n n (Nat.le_refl _) a h1
theorem BO {n most:Nat} (h:n≤most):cR (fV n) most= .ok n:=by
 unfold cR
 rw [rp (BM n) (fun i hi=>decide_eq_true (mN (dK hi))) (by rw [ub]; omega),ub]
 rfl
theorem tZ (n:Nat):jY (fV n):=by
 refine ⟨mO n,fun b a=> ?_,?_,fun a=> ?_⟩
 · have :=mN a; rw [kf]; exact decide_eq_false aa
 · unfold kJ
   have :=mN (dK (d:=0) (List.length_pos_iff.2 (mO n)))
   exact decide_eq_false aa
 · have :=mN a; revert this; decide
theorem HQ {n:Nat} {r:Tx} :jz (fV n++r)=false :=by
 have h:=mN (dK (d:=0) (List.length_pos_iff.2 (mO n)))
 rw [m8]
 refine decide_eq_false fun h2=> ?_
 have h3:=h2.2.1
 rw [qR (List.length_pos_iff.2 (mO n))] at h3
 omega
end Go.Hb
end
section
namespace Go.Hb
def pH:Tx:= [83,70,88,32,65,32,89,32,48,10]
def r6:Tx:= [50,10,102,108,121,47,65,10,105,110,92,47,111,117,116,10]
def mo:aM:=⟨1,[],[],[0,0,0,0,0],3,[],[],[⟨65,2,true,0,0⟩],[]⟩
def lA:List bR:= [([102,108,121],[65]),([105,110,47,111,117,116],[])]
theorem wi {b:UInt8} {m:Int} (h:48≤b.toNat∧b.toNat≤57) (hm:((b.toNat - 48:Nat):Int)≤m):cR [b] m= .ok (b.toNat - 48):=by
 have a:dt [b]=b.toNat - 48:=by simp [dt]
 have c:¬kF [b]:=by rintro (h | ⟨h,_⟩) <;> simp at h
 have hd:qq [b]:=fun i hi=>by
  have hi:i=0:=by simpa using hi
  subst hi
  exact decide_eq_true h
 unfold cR
 rw [rp c hd (by rw [a]; omega),a]
 rfl
theorem H3:bY pH= [(1,[[83,70,88],[65],[89],[48]])]:=by decide+kernel
theorem H4:bY r6= [(1,[[50]]),(2,[[102,108,121,47,65]]),(3,[[105,110,92,47,111,117,116]])]:=by decide+kernel
theorem r7:dd 1 [65]=65:=by unfold dd; decide+kernel
theorem H0:fp fS [65]= .ok 65:=by
 unfold fp e6 fS
 simp only
 rw [r7]
 simp [c9,dP]
theorem HY:eM pH= .ok mo:=by
 unfold eM
 rw [if_neg ao,H3]
 simp only [List.length_cons,List.length_nil]
 have a:bB ((a7 pH).length+1) fS [] [] 1 [[83,70,88],[65],[89],[48]]= .ok (mo,[]):=by
  unfold bB
  simp only [List.getD_cons_zero]
  rw [if_neg ao,if_neg ao,if_neg ao,if_neg ao,if_neg ao,if_neg ao,if_neg ao]
  unfold eZ
  simp only [List.getD_cons_zero,List.getD_cons_succ]
  rw [H0]
  simp only
  rw [if_neg (by simp),wi ao ao]
  rfl
 rw [eJ]
 simp only [List.getD_cons_zero]
 rw [if_neg ao,if_neg ao,if_neg ao,a]
 simp only
 rw [eJ,if_pos rfl]
 rfl
theorem H2:iO 1 [65]= .ok [65]:=by
 have h1:da 1 [65]= [[65]]:=by decide+kernel
 have h:dH 1 [65]=([65],0):=by
  unfold dH
  rw [h1,if_neg (by simp),if_neg (by simp [r7]),if_neg (by simp),List.map_cons,List.map_nil,r7]
  decide+kernel
 unfold iO
 rw [h]; rfl
theorem HZ:ef mo r6= .ok lA:=by
 have a:du mo [[102,108,121,47,65]]= .ok ([102,108,121],[65]):=by
  have hw:a8 [102,108,121,47,65]=([102,108,121],[65],true,0):=by decide+kernel
  refine (uu (row:= [[102,108,121,47,65]]) (set := [65]) U ?_ ?_ ?_ ?_ ?_ ?_ ?_).trans ?_
  all_goals try simp only [List.getD_cons_zero,hw]
  · decide
  · decide
  · simp
  · show eh 1 [] [65]=_
    unfold eh; rw [if_pos rfl]; exact H2
  · intro i hi
    have :i=0:=by simpa using hi
    subst this; decide
 have c:du mo [[105,110,92,47,111,117,116]]= .ok ([105,110,47,111,117,116],[]):=by
  have hw:a8 [105,110,92,47,111,117,116]=([105,110,47,111,117,116],[],false,0):=by decide+kernel
  refine (ur (row:= [[105,110,92,47,111,117,116]]) U ?_ ?_ ?_ ?_ ?_).trans ?_
  all_goals try simp only [List.getD_cons_zero,hw]
  · decide
  · decide
  · simp
 have hn:cR [50] 8192= .ok 2:=wi ao ao
 rw [ou ao H4 rfl (show cR ([[50]].getD 0 []) 8192= .ok 2 from hn),dw,a]
 simp only
 rw [dw,c]
 simp only
 rw [dw]
 rfl
end Go.Hb
end
section
set_option maxRecDepth 20000
set_option maxHeartbeats 1000000
namespace Go.Hb.ff
open Go.Proofs
def jf (l:List (Tx×Tx)):List Value:=l.flatMap fun p=> [str p.1,str p.2]
def j7 (c:db):List Value:= [aI c.flag,.int .i64 (c.kind:Nat),.bool c.ic,.int .i64 (c.first:Nat),.int .i64 (c.count:Nat)]
def iM (l:List db):List Value:=l.flatMap j7
def gO (q:eX×Value):List Value:= [.int .i64 (q.1.kind:Nat),aI q.1.flag,.bool q.1.ic,str q.1.strip,str q.1.add,str q.1.cond,q.2]
def fc (l:List (eX×Value)):List Value:=l.flatMap gO
structure bw where
 rb:Nat
 fb:Nat
 ms:Nat
 mt:Nat
 mc:Nat
 eof:Nat
structure dq where
 v9:Value
 v10:Value
 v11:Value
 dG:Value
 sa:List Value
 rn:List Value
structure dV where
 vr:Value
 vs:List (Nat×Value)
 vn:Value
def jx (F:aM) (V:dq) (mc:Nat):List Value:= [.int .i64 (F.kind:Nat),str F.mL,str F.tr,aI (F.sp.getD 0 0),aI (F.sp.getD 1 0),aI (F.sp.getD 2 0),aI (F.sp.getD 3 0),aI (F.sp.getD 4 0),.int .i64 (F.least:Nat),V.v9,V.v10,V.v11,V.dG,.map (some mc)]
def nk (H:bw) (R:dV) (ln:Nat):List Value:= [.pointer (some ⟨H.fb,0,none⟩),R.vr,.int .i64 (ln:Nat),.int .i64 (H.eof:Nat),.map (some H.ms),.map (some H.mt),R.vn]
structure bQ (w:World) (B fb mc:Nat) (F:aM) (V:dq):Prop where
 cells:w.heap[fb]? =some (.cells (jx F V mc).toArray 89 (0,0))
 o9:World.ownsRow w B 163 2 V.v9 F.bW.length (jf F.bW)
 e8:World.ownsRow w B 54 1 V.v10 F.aliases.length V.sa
 al:bX w B 71 V.sa F.aliases
 eB:World.ownsRow w B 157 5 V.v11 F.bf.length (iM F.bf)
 dY:World.ownsRow w B 155 7 V.dG F.rules.length (fc (F.rules.zip V.rn))
 nx:bX w B 71 V.rn (F.rules.map (·.next))
 cm:∃ f,bz w.heap mc (kg .u16) f∧∀ x:Nat,f (aI x)=(F.bf.findIdx? fun c=>decide (c.flag=x)).map fun i:Nat=>Value.int .i64 i
 lo:B≤fb∧B≤mc
 gC:F.sp.length=5
theorem bQ.md {G:Nat→Prop} {w w':World} {B fb mc:Nat} {F:aM} {V:dq} (h:bQ w B fb mc F V) (hm:Md G w w') {L:List Nat} (a:TF w L G) (c:(L.contains 91 || L.contains 165 || L.contains 56 || L.contains 73 || L.contains 159 || L.contains 157)=false) (s:¬G mc):bQ w' B fb mc F V:=by
 simp only [Bool.or_eq_false_iff] at c
 obtain ⟨⟨⟨⟨⟨h1,h2⟩,h3⟩,h4⟩,h5⟩,h6⟩:=c
 have i:∀ k,G k→∀ cur z,w.heap[k]?≠some (.cells cur 71 z):=fun k hk cur z q=>a.no (c5 q) h4 hk
 obtain ⟨f,j,p⟩:=h.cm
 exact ⟨hm.iK a h.cells h1,cJ h.o9 hm a h2,cJ h.e8 hm a h3,h.al.md hm i,cJ h.eB hm a h5,cJ h.dY hm a h6,h.nx.md hm i,⟨f,j.md hm s,p⟩,h.lo,h.gC⟩
theorem bQ.wk {w w':World} {B fb mc:Nat} {F:aM} {V:dq} (h:bQ w B fb mc F V) (hm:Wk w w'):bQ w' B fb mc F V:=h.md (L:= []) hm (fun _ hk=>hk.elim) rfl id
structure bC (w:World) (B:Nat) (H:bw) (F:aM) (R:dV) (rows:List Rw) (ln:Nat) (seen:List Tx):Prop where
 cells:w.heap[H.rb]? =some (.cells (nk H R ln).toArray 92 (0,0))
 rws:hY w B 105 rows.length R.vr (gB R.vs)
 rt:ec w B 9 R.vs rows
 sm:∃ f,bz w.heap H.ms eQ f∧∀ s:Tx,(f (str s)).getD (.int .i64 0)= .int .i64 (seen.count s:Nat)
 tm:∃ f,bz w.heap H.mt (kg .u16) f∧∀ x:Nat,x≠0→(f (aI x)).getD (.int .i64 0)= .int .i64 ((if c9 F x=true then 1 else 0:Nat):Nat)
 on :World.ownsRow w B 3 1 R.vn F.rules.length (F.rules.map fun r=>Value.int .i64 (r.line:Nat))
 lo:B≤H.rb∧B≤H.ms∧B≤H.mt
 ne:H.ms≠H.mt∧H.ms≠H.mc∧H.mt≠H.mc
theorem bC.md {G:Nat→Prop} {w w':World} {B:Nat} {H:bw} {F:aM} {R:dV} {rows:List Rw} {ln:Nat} {seen:List Tx} (h:bC w B H F R rows ln seen) (hm:Md G w w') {L:List Nat} (a:TF w L G) (i:(L.contains 94 || L.contains 107 || L.contains 11 || L.contains 5)=false) (A:¬G H.ms) (C:¬G H.mt):bC w' B H F R rows ln seen:=by
 simp only [Bool.or_eq_false_iff] at i
 obtain ⟨⟨⟨h1,h2⟩,h3⟩,h4⟩:=i
 obtain ⟨f,j,p⟩:=h.sm
 obtain ⟨g,q,s⟩:=h.tm
 exact ⟨hm.iK a h.cells h1,h.rws.md hm (fun k hk cur z c=>a.no (c5 c) h2 hk),h.rt.md hm (fun k hk cur z c=>a.no (c5 c) h3 hk),⟨f,j.md hm A,p⟩,⟨g,q.md hm C,s⟩,cJ h.on hm a h4,h.lo,h.ne⟩
theorem bC.wk {w w':World} {B:Nat} {H:bw} {F:aM} {R:dV} {rows:List Rw} {ln:Nat} {seen:List Tx} (h:bC w B H F R rows ln seen) (hm:Wk w w'):bC w' B H F R rows ln seen:=h.md (L:= []) hm (fun _ hk=>hk.elim) rfl id id
theorem bC.cQ {w:World} {B:Nat} {H:bw} {F:aM} {R:dV} {rows:List Rw} {ln:Nat} {seen:List Tx} (h:bC w B H F R rows ln seen):Hb.aG w.heap H.rb 2=some (.int .i64 (ln:Nat)):=(a4 h.cells).trans rfl
structure gE (F:aM) (rows:List Rw) (seen:List Tx):Prop where
 len:F.bW.length+F.aliases.length+F.bf.length+F.rules.length+rows.length≤70000
 sl:seen.length+rows.length≤70000
 row:∀ q∈rows,q.2≠[]∧q.2.length≤70000∧∀ x∈q.2,x.length≤70000
 kd:F.kind=1∨F.kind=2∨F.kind=3
 al:∀ l∈F.aliases,l.length≤64∧l.Pairwise (· < ·)
def St (w:World) (B:Nat) (H:bw) (F:aM) (rows:List Rw) (ln:Nat) (seen:List Tx):Prop := ∃ V R,bQ w B H.fb H.mc F V∧bC w B H F R rows ln seen∧gE F rows seen
abbrev c7 (B:Nat) (H:bw) (w w':World):Prop :=Mw [94,91,165,56,159,157,5] H.ms H.mt H.mc B w w'
theorem bC.cw {w w':World} {B:Nat} {H:bw} {F:aM} {R R':dV} {rows rows':List Rw} {ln ln':Nat} {seen:List Tx} (h:bC w B H F R rows ln seen) (hm:Md (fun k=>k=H.rb) w w') (p:w'.heap[H.rb]? =some (.cells (nk H R' ln').toArray 92 (0,0))) (E:R'.vn=R.vn) (A:hY w B 105 rows'.length R'.vr (gB R'.vs)) (C:ec w B 9 R'.vs rows'):bC w' B H F R' rows' ln' seen:=by
 obtain ⟨f,i,q⟩:=h.sm
 obtain ⟨g,j,s⟩:=h.tm
 have a:TF w [94] (fun k=>k=H.rb):=TF.eq (c5 h.cells) ao
 exact ⟨p,A.md hm (fun k hk cur z c=>a.no (c5 c) ao hk),C.md hm (fun k hk cur z c=>a.no (c5 c) ao hk),⟨f,i.md hm (a.no (cH i) ao),q⟩,⟨g,j.md hm (a.no (cH j) ao),s⟩,E ▸ cJ h.on hm a ao,h.lo,h.ne⟩
theorem ec.tl {w:World} {B e:Nat} {q:Nat×Value} {r:Rw} {vs:List (Nat×Value)} {rs:List Rw} (h:ec w B e (q::vs) (r::rs)):ec w B e vs rs:=⟨by have :=h.1; simpa using this,fun i a c h1 h2=>h.2 (i+1) a c h1 h2⟩
theorem bQ.put {w w':World} {B fb mc:Nat} {F F':aM} {V:dq} (h:bQ w B fb mc F V) (hm:Md (fun k=>k=fb) w w') (j:w'.heap[fb]? =some (.cells (jx F' V mc).toArray 89 (0,0))) (h1:F'.bW=F.bW) (h2:F'.aliases=F.aliases) (h3:F'.bf=F.bf) (h4:F'.rules=F.rules) (h5:F'.sp.length=5):bQ w' B fb mc F' V:=by
 have a:TF w [91] (fun k=>k=fb):=TF.eq (c5 h.cells) ao
 have i:∀ k,k=fb→∀ cur z,w.heap[k]?≠some (.cells cur 71 z):=eG h.cells ao
 obtain ⟨f,c,p⟩:=h.cm
 exact ⟨j,h1 ▸ cJ h.o9 hm a ao,h2 ▸ cJ h.e8 hm a ao,h2 ▸ h.al.md hm i,h3 ▸ cJ h.eB hm a ao,h4 ▸ cJ h.dY hm a ao,h4 ▸ h.nx.md hm i,⟨f,c.md hm (a.no (cH c) ao),h3 ▸ p⟩,h.lo,h5⟩
theorem bC.fb {w w':World} {B:Nat} {H:bw} {F c:aM} {V:dq} {R:dV} {rows:List Rw} {ln:Nat} {seen:List Tx} (h:bC w B H F R rows ln seen) (i:bQ w B H.fb H.mc c V) (hm:Md (fun k=>k=H.fb) w w'):bC w' B H F R rows ln seen:=by
 have a:TF w [91] (fun k=>k=H.fb):=TF.eq (c5 i.cells) ao
 obtain ⟨f,j,q⟩:=h.sm
 obtain ⟨g,p,s⟩:=h.tm
 exact h.md hm a ao (a.no (cH j) ao) (a.no (cH p) ao)
theorem bQ.rb {w w':World} {B:Nat} {H:bw} {F a:aM} {V:dq} {R:dV} {rows:List Rw} {ln:Nat} {seen:List Tx} (h:bQ w B H.fb H.mc a V) (i:bC w B H F R rows ln seen) (hm:Md (fun k=>k=H.rb) w w'):bQ w' B H.fb H.mc a V:=by
 have c:TF w [94] (fun k=>k=H.rb):=TF.eq (c5 i.cells) ao
 obtain ⟨f,j,p⟩:=h.cm
 exact h.md hm c ao (c.no (cH j) ao)
theorem bC.congr {w:World} {B:Nat} {H:bw} {F F':aM} {R:dV} {rows:List Rw} {ln:Nat} {seen:List Tx} (h:bC w B H F R rows ln seen) (i:F'.rules=F.rules) (hd:∀ x,c9 F' x=c9 F x):bC w B H F' R rows ln seen:=by
 obtain ⟨g,a,c⟩:=h.tm
 exact ⟨h.cells,h.rws,h.rt,h.sm,⟨g,a,fun x j=>by rw [hd]; exact c x j⟩,i ▸ h.on,h.lo,h.ne⟩
theorem bC.nb {w w':World} {B:Nat} {H:bw} {F F':aM} {R:dV} {rows:List Rw} {ln:Nat} {seen:List Tx} {f:Value→Option Value} (h:bC w B H F R rows ln seen) (hm:Md (fun k=>k=H.mt) w w') (i:bz w'.heap H.mt (kg .u16) f) (s:F'.rules=F.rules) (hd:∀ x:Nat,x≠0→(f (aI x)).getD (.int .i64 0)= .int .i64 ((if c9 F' x=true then 1 else 0:Nat):Nat)):bC w' B H F' R rows ln seen:=by
 obtain ⟨g,q,_⟩:=h.tm
 obtain ⟨f0,j,p⟩:=h.sm
 have a:TF w [1] (fun k=>k=H.mt):=TF.eq (cH q) ao
 exact ⟨hm.iK a h.cells ao,h.rws.md hm (fun k hk cur z c=>a.no (c5 c) ao hk),h.rt.md hm (fun k hk cur z c=>a.no (c5 c) ao hk),⟨f0,j.md hm h.ne.1,p⟩,⟨f,i,hd⟩,s ▸ cJ h.on hm a ao,h.lo,h.ne⟩
theorem bQ.nb {w w':World} {B:Nat} {H:bw} {F a:aM} {V:dq} {R:dV} {rows:List Rw} {ln:Nat} {seen:List Tx} (h:bQ w B H.fb H.mc a V) (c:bC w B H F R rows ln seen) (hm:Md (fun k=>k=H.mt) w w'):bQ w' B H.fb H.mc a V:=by
 obtain ⟨g,i,_⟩:=c.tm
 exact h.md (L:= [1]) hm (TF.eq (cH i) ao) ao (fun h=>c.ne.2.2 h.symm)
theorem c7.fb {w w':World} {B:Nat} {H:bw} {c:aM} {V:dq} (a:bQ w B H.fb H.mc c V) (hm:Md (fun k=>k=H.fb) w w'):c7 B H w w':=Mw.of hm (TF.eq (c5 a.cells) ao) (fun k hk=>hk ▸ a.lo.1)
theorem c7.rb {w w':World} {B:Nat} {H:bw} {F:aM} {R:dV} {rows:List Rw} {ln:Nat} {seen:List Tx} (a:bC w B H F R rows ln seen) (hm:Md (fun k=>k=H.rb) w w'):c7 B H w w':=Mw.of hm (TF.eq (c5 a.cells) ao) (fun k hk=>hk ▸ a.lo.1)
theorem c7.mt {w w':World} {B:Nat} {H:bw} {F:aM} {R:dV} {rows:List Rw} {ln:Nat} {seen:List Tx} (a:bC w B H F R rows ln seen) (hm:Md (fun k=>k=H.mt) w w'):c7 B H w w':=hm.mono fun k _ hk=>⟨hk ▸ a.lo.2.2,.inr (.inl hk)⟩
def eW (B:Nat) (H:bw) (seen:List Tx) (X:Except (Nat×Nat) (aM×List Rw)) (w:World) (v:Value) (w':World):Prop :=v= .tuple #[]∧∃ F' rows' ln',X= .ok (F',rows')∧St w' B H F' rows' ln' seen∧c7 B H w w'
def eV (B:Nat) (H:bw) (X:Except (Nat×Nat) (aM×List Rw)) (w:World) (c:List PanicEntry) (w':World):Prop := ∃ l e,X= .error (l,e)∧c=eO 25 l (e:Nat)∧c7 B H w w'
def fR (F:aM) (seen:List Tx):Prop := ∀ k∈dU,k∉seen→F.sp.getD (dU.idxOf k) 0=0
theorem BV {F:aM} {i x:Nat} (hi:i < F.sp.length) (a:F.sp.getD i 0=0) (y:Nat) (q:y≠0):c9 {F with sp:=F.sp.set i x} y=(decide (y=x) || c9 F y):=by
 unfold c9
 show (decide (y∈F.sp.set i x) || _)=_
 rw [← Bool.or_assoc]
 congr 1
 rw [← Bool.decide_or,decide_eq_decide]
 constructor
 · intro h
   rcases List.mem_or_eq_of_mem_set h with h | h
   · exact .inr h
   · exact .inl h
 · rintro (h | h)
   · subst h; exact List.mem_set hi _
   · obtain ⟨j,p⟩:=List.getElem?_of_mem h
     by_cases c:i=j
     · subst c
       rw [List.getD_eq_getElem?_getD,p] at a
       exact absurd a q
     · exact List.mem_of_getElem? (i:=j) (by rw [List.getElem?_set,if_neg c]; exact p)
theorem Tg.nd {w:World} {B e j n p b:Nat} {a:Option Addr} {xs:List Value} {cs:Array Value} {z:Nat×Nat} (h:Tg w B e n (.slice a n p) xs) (E:xs≠[]) (c:w.heap[b]? =some (.cells cs j z)) (A:e≠j):¬(bk a=b):=by
 obtain ⟨G,I,C,_,s⟩:=h
 cases C
 rcases s with rfl | ⟨i,cur,J,rfl,_,q,_⟩
 · exact absurd U E
 · rintro rfl
   rw [show (bk (some ⟨i,0,none⟩))=i from rfl] at c
   rw [q] at c
   simp only [Option.some.injEq,Obj.cells.injEq] at c
   exact A c.2.1
theorem CO {F:aM} {V:dq} {mc i o x:Nat} (h5:F.sp.length=5) (hi:i < 5) (j:o=3 +i):(jx F V mc).set o (aI x)=jx {F with sp:=F.sp.set i x} V mc:=by
 subst j
 obtain ⟨k,cs,tr,sp,le,p,al,cl,q⟩:=F
 match sp,h5 with
 | [a,b,c,d,e],_=>
   match i,hi with
   | 0,_=>rfl
   | 1,_=>rfl
   | 2,_=>rfl
   | 3,_=>rfl
   | 4,_=>rfl
theorem tW (b:Bool):decide (((if b=true then 1 else 0:Nat):Int)=0)= !b:=by cases b <;> rfl
theorem xO {x y:Nat} (h:aI x=aI y):x=y:=by unfold aI at h; injection h with _ h; omega
theorem xI {F F':aM} {f:Value→Option Value} {x:Nat} (hd:c9 F x=false) (i:∀ y:Nat,y≠0→(f (aI y)).getD (.int .i64 0)= .int .i64 ((if c9 F y=true then 1 else 0:Nat):Nat)) (c:∀ y,y≠0→c9 F' y=(decide (y=x) || c9 F y)) (y:Nat) (a:y≠0):(a9 f (aI x) (.int .i64 (1:Nat)) (aI y)).getD (.int .i64 0)= .int .i64 ((if c9 F' y=true then 1 else 0:Nat):Nat):=by
 rw [c y a]
 by_cases h:y=x
 · subst h; rw [ni]; simp
 · rw [l8 (fun h2=>h (xO h2)),i y a]; simp [h]
theorem fz {G:Nat→Prop} {w w':World} (h:Md G w.drew w'):Md G w w':=⟨h.os,h.output,h.size,h.fE⟩
theorem bX.get {w:World} {B e i:Nat} {vs:List Value} {ls:List (List Nat)} (h:bX w B e vs ls) (hi:i < ls.length):∃ v,vs[i]? =some v∧Tg w B e (ls.getD i []).length v ((ls.getD i []).map aI):=by
 have h1:i < vs.length:=by rw [h.1]; exact hi
 refine ⟨vs[i],List.getElem?_eq_getElem h1,h.2 i _ _ (List.getElem?_eq_getElem h1) ?_⟩
 rw [List.getD_eq_getElem?_getD,List.getElem?_eq_getElem hi]; rfl
theorem Tg.oS {w:World} {B e n c:Nat} {a:Option Addr} {xs:List Value} (h:Tg w B e n (.slice a n c) xs) (p:xs.length=n) (i:a=none):n=0:=by
 obtain ⟨s,C,q,_,j⟩:=h
 cases q
 rcases j with rfl | ⟨A,cur,E,h2,_⟩
 · exact p.symm
 · rw [i] at h2; cases h2
theorem Tg.vU {G:Nat→Prop} {w w':World} {B e n:Nat} {v:Value} {xs:List Value} (h:Tg w B e n v xs) (hm:Md G w w') (p:∀ k,G k→k < B):Tg w' B e n v xs:=by
 obtain ⟨a,c,rfl,i,h | ⟨b,cur,z,rfl,q,j,s⟩⟩:=h
 · exact ⟨a,c,U,i,.inl h⟩
 · exact ⟨_,c,U,i,.inr ⟨b,cur,z,U,q,by rw [hm.fE b (Array.getElem?_eq_some_iff.1 j).1 (fun hk=>by have :=p b hk; omega)]; exact j,s⟩⟩
end Go.Hb.ff
end
section
namespace Go.Hb
abbrev ae (n:Nat):Value:= .int .i64 (n:Nat)
abbrev a6 (b:Nat):Value:= .pointer (some ⟨b,0,none⟩)
variable {P:Program} {N:Fm} {ops:Array Oper} {Q:Exit→(Nat→Value)→World→Prop} {σ:Nat→Value} {w:World} {S:World→Prop} {r fuel:Nat} {aR:Array Bool} {d:Nat} {op:Op} {ty:TypeId} {pos :String} {af:Array Edge} {v:Value}
theorem aT (i:Nat) (hi:ops[i]? =some ⟨some d,op,ty,pos,af,none⟩) (j:∀ w,S w→(execOp (ev N σ) ⟨some d,op,ty,pos,af,none⟩).run P w= .ok (.value v) w) (a:S w) (k:dN P N ops Q S fuel (aR.setIfInBounds i true) (cw σ d v) w) (c:gU N.F ops aR i=true :=by kernel_rfl):dN P N ops Q S (fuel+1) aR σ w:=hp i hi c j a k
theorem cY (i:Nat) (hi:ops[i]? =some ⟨some d,op,ty,pos,af,none⟩) (j:∀ w,S w→(execOp (ev N σ) ⟨some d,op,ty,pos,af,none⟩).run P w= .ok (.value v) w) (a:S w) (k:et P N ops Q S r fuel (aR.setIfInBounds i true) (cw σ d v) w) (c:qO N.F ops aR r i=true :=by kernel_rfl):et P N ops Q S r (fuel+1) aR σ w:=fZ i hi c j a k
theorem bc (i:Nat) (hi:ops[i]? =some ⟨some d,op,ty,pos,af,none⟩) (j:∀ w,(execOp (ev N σ) ⟨some d,op,ty,pos,af,none⟩).run P w= .ok (.value v) w) (a:aR.getD r false =false→S w) (k:et P N ops Q S r fuel (aR.setIfInBounds i true) (cw σ d v) w) (c:oL N.F ops aR r i=true :=by kernel_rfl):et P N ops Q S r (fuel+1) aR σ w:=bD i hi c j a k
theorem bH {x:Operand} (i:Nat) (hi:ops[i]? =some ⟨some d,.move x,ty,pos,af,none⟩) (v:Value) (a:S w) (k:dN P N ops Q S fuel (aR.setIfInBounds i true) (cw σ d v) w) (j:ev N σ x=v:=by exact U) (c:gU N.F ops aR i=true :=by kernel_rfl):dN P N ops Q S (fuel+1) aR σ w:=hp i hi c (fun _ _=>aB v j) a k
theorem aV {x:Operand} (i:Nat) (hi:ops[i]? =some ⟨some d,.move x,ty,pos,af,none⟩) (v:Value) (a:S w) (k:et P N ops Q S r fuel (aR.setIfInBounds i true) (cw σ d v) w) (j:ev N σ x=v:=by exact U) (c:oL N.F ops aR r i=true :=by kernel_rfl):et P N ops Q S r (fuel+1) aR σ w:=bD i hi c (fun _=>aB v j) (fun _=>a) k
theorem a5 {P:Program} {f:FuncId} {fn:Func} (c:P.funcs[f]? =some fn) (hn:(fn.name== "runtime.NumGoroutine")=false :=by kernel_rfl) (a:fn.body.isNone=false :=by kernel_rfl):aY P f:=Ap c hn a
section
variable {rest:List Oper} {x:Operand} {K:(Nat→Value)→World→Prop} {l:List Oper} {id:Nat} {y:Code}
theorem ag (h:∀ K:(Nat→Value)→World→Prop,(∀ σ w,ca P N y Q σ w→K σ w)→cW P N l.toArray (iV K Q) l σ w) (c:l6 N.r l=true :=by exact U):ca P N (.seq (.region id l.toArray false) y) Q σ w:=sq fun K a=>rg c (h K a)
theorem az (h:K σ w):cW P N ops (iV K Q) [] σ w:=nl (tn h)
theorem au (h:K (cw σ d (ev N σ x)) w):cW P N ops (iV K Q) [⟨some d,.assign x,ty,pos,af,none⟩] σ w:=p aA (nl (tn h))
theorem aj (v:Value) (h:cW P N ops Q rest (cw σ d v) w) (a:ev N σ x=v:=by exact U):cW P N ops Q (⟨some d,.move x,ty,pos,af,none⟩::rest) σ w:=p (aB v a) h
end
end Go.Hb
end
section
namespace Go.Hb.c6
open Go.Proofs
theorem nV:cj Tryz.prog 105=some (some 2):=ab
theorem sx:cj Tryz.prog 106=some none:=ab
theorem pO:cj Tryz.prog 139=some none:=ab
theorem sy:cj Tryz.prog 141=some none:=ab
theorem pP:cj Tryz.prog 155=some (some 7):=ab
theorem mA:cj Tryz.prog 157=some (some 5):=ab
theorem mB:cj Tryz.prog 211=some none:=ab
theorem ky:cj Tryz.prog 213=some (some 1):=ab
theorem dO:cj Tryz.prog 22=some none:=ab
theorem lI:cj Tryz.prog 225=some none:=ab
theorem gw:cj Tryz.prog 227=some (some 4):=ab
theorem fG:cj Tryz.prog 25=some (some 3):=ab
theorem kW:cj Tryz.prog 266=some none:=ab
theorem eu:cj Tryz.prog 3=some none:=ab
theorem nW:cj Tryz.prog 39=some none:=ab
theorem sA:cj Tryz.prog 4=some none:=ab
theorem kz:cj Tryz.prog 48=some none:=ab
theorem mC:cj Tryz.prog 5=some none:=ab
theorem yB:cj Tryz.prog 50=some (some 2):=ab
theorem iJ:cj Tryz.prog 54=some none:=ab
theorem fT:cj Tryz.prog 56=some (some 2):=ab
theorem sB:cj Tryz.prog 64=some none:=ab
theorem bq:cj Tryz.prog 71=some none:=ab
theorem lJ:cj Tryz.prog 74=some none:=ab
theorem mD:cj Tryz.prog 80=some none:=ab
theorem sD:cj Tryz.prog 81=some (some 5):=ab
theorem sE:cj Tryz.prog 82=some none:=ab
theorem kX:cj Tryz.prog 83=some none:=ab
theorem nX:cj Tryz.prog 84=some none:=ab
theorem kY:cj Tryz.prog 85=some none:=ab
theorem pQ:cj Tryz.prog 87=some (some 13):=ab
theorem bF:cj Tryz.prog 9=some none:=ab
theorem lK:cj Tryz.prog 90=some none:=ab
theorem sF:cj Tryz.prog 97=some none:=ab
theorem sN:k4 Tryz.prog 204=some (256,1):=ab
theorem kZ:k4 Tryz.prog 227=some (4,1):=ab
theorem pS:k4 Tryz.prog 81=some (5,1):=ab
theorem sO:pT Tryz.prog 227=some ([.int .u64 0,.int .u64 0,.int .u64 0,.int .u64 0]):=ab
theorem k5:n3 Tryz.prog 139 5 9=true :=ab
theorem fU:aY Tryz.prog 10:=a5 Tryz.func10
theorem sY:aY Tryz.prog 100:=a5 Tryz.func100
theorem sZ:aY Tryz.prog 101:=a5 Tryz.func101
theorem ze:aY Tryz.prog 102:=a5 Tryz.func102
theorem s0:aY Tryz.prog 103:=a5 Tryz.func103
theorem s5:aY Tryz.prog 104:=a5 Tryz.func104
theorem zf:aY Tryz.prog 105:=a5 Tryz.func105
theorem fH:aY Tryz.prog 11:=a5 Tryz.func11
theorem zg:aY Tryz.prog 111:=a5 Tryz.func111
theorem zh:aY Tryz.prog 112:=a5 Tryz.func112
theorem zi:aY Tryz.prog 113:=a5 Tryz.func113
theorem zj:aY Tryz.prog 114:=a5 Tryz.func114
theorem zk:aY Tryz.prog 115:=a5 Tryz.func115
theorem s6:aY Tryz.prog 116:=a5 Tryz.func116
theorem s7:aY Tryz.prog 117:=a5 Tryz.func117
theorem zl:aY Tryz.prog 118:=a5 Tryz.func118
theorem pX:aY Tryz.prog 119:=a5 Tryz.func119
theorem iL:aY Tryz.prog 12:=a5 Tryz.func12
theorem pY:aY Tryz.prog 120:=a5 Tryz.func120
theorem zm:aY Tryz.prog 121:=a5 Tryz.func121
theorem zn:aY Tryz.prog 122:=a5 Tryz.func122
theorem zo:aY Tryz.prog 123:=a5 Tryz.func123
theorem s8:aY Tryz.prog 129:=a5 Tryz.func129
theorem mH:aY Tryz.prog 13:=a5 Tryz.func13
theorem s9:aY Tryz.prog 130:=a5 Tryz.func130
theorem zp:aY Tryz.prog 131:=a5 Tryz.func131
theorem zq:aY Tryz.prog 132:=a5 Tryz.func132
theorem pZ:aY Tryz.prog 133:=a5 Tryz.func133
theorem zr:aY Tryz.prog 134:=a5 Tryz.func134
theorem p4:aY Tryz.prog 135:=a5 Tryz.func135
theorem ta:aY Tryz.prog 136:=a5 Tryz.func136
theorem zt:aY Tryz.prog 137:=a5 Tryz.func137
theorem p5:aY Tryz.prog 138:=a5 Tryz.func138
theorem tc:aY Tryz.prog 139:=a5 Tryz.func139
theorem td:aY Tryz.prog 144:=a5 Tryz.func144
theorem zu:aY Tryz.prog 148:=a5 Tryz.func148
theorem zw:aY Tryz.prog 149:=a5 Tryz.func149
theorem n6:aY Tryz.prog 15:=a5 Tryz.func15
theorem zx:aY Tryz.prog 150:=a5 Tryz.func150
theorem zy:aY Tryz.prog 151:=a5 Tryz.func151
theorem tg:aY Tryz.prog 152:=a5 Tryz.func152
theorem th:aY Tryz.prog 153:=a5 Tryz.func153
theorem zz:aY Tryz.prog 154:=a5 Tryz.func154
theorem zA:aY Tryz.prog 155:=a5 Tryz.func155
theorem zB:aY Tryz.prog 156:=a5 Tryz.func156
theorem zC:aY Tryz.prog 157:=a5 Tryz.func157
theorem zD:aY Tryz.prog 158:=a5 Tryz.func158
theorem zE:aY Tryz.prog 159:=a5 Tryz.func159
theorem mI:aY Tryz.prog 16:=a5 Tryz.func16
theorem zH:aY Tryz.prog 160:=a5 Tryz.func160
theorem zI:aY Tryz.prog 161:=a5 Tryz.func161
theorem gR:aY Tryz.prog 162:=a5 Tryz.func162
theorem zJ:aY Tryz.prog 163:=a5 Tryz.func163
theorem zK:aY Tryz.prog 164:=a5 Tryz.func164
theorem zL:aY Tryz.prog 166:=a5 Tryz.func166
theorem zM:aY Tryz.prog 17:=a5 Tryz.func17
theorem zN:aY Tryz.prog 172:=a5 Tryz.func172
theorem zO:aY Tryz.prog 173:=a5 Tryz.func173
theorem zP:aY Tryz.prog 174:=a5 Tryz.func174
theorem ti:aY Tryz.prog 175:=a5 Tryz.func175
theorem zQ:aY Tryz.prog 176:=a5 Tryz.func176
theorem zR:aY Tryz.prog 177:=a5 Tryz.func177
theorem p6:aY Tryz.prog 178:=a5 Tryz.func178
theorem tj:aY Tryz.prog 179:=a5 Tryz.func179
theorem p7:aY Tryz.prog 18:=a5 Tryz.func18
theorem zS:aY Tryz.prog 180:=a5 Tryz.func180
theorem p8:aY Tryz.prog 186:=a5 Tryz.func186
theorem zT:aY Tryz.prog 19:=a5 Tryz.func19
theorem zU:aY Tryz.prog 20:=a5 Tryz.func20
theorem n7:aY Tryz.prog 21:=a5 Tryz.func21
theorem zV:aY Tryz.prog 23:=a5 Tryz.func23
theorem tk:aY Tryz.prog 29:=a5 Tryz.func29
theorem tp:aY Tryz.prog 30:=a5 Tryz.func30
theorem zW:aY Tryz.prog 31:=a5 Tryz.func31
theorem zX:aY Tryz.prog 32:=a5 Tryz.func32
theorem tq:aY Tryz.prog 33:=a5 Tryz.func33
theorem ed:aY Tryz.prog 34:=a5 Tryz.func34
theorem zY:aY Tryz.prog 35:=a5 Tryz.func35
theorem k6:aY Tryz.prog 36:=a5 Tryz.func36
theorem zZ:aY Tryz.prog 37:=a5 Tryz.func37
theorem z0:aY Tryz.prog 38:=a5 Tryz.func38
theorem z1:aY Tryz.prog 39:=a5 Tryz.func39
theorem z3:aY Tryz.prog 40:=a5 Tryz.func40
theorem z4:aY Tryz.prog 48:=a5 Tryz.func48
theorem n8:aY Tryz.prog 49:=a5 Tryz.func49
theorem z5:aY Tryz.prog 50:=a5 Tryz.func50
theorem z6:aY Tryz.prog 51:=a5 Tryz.func51
theorem z7:aY Tryz.prog 53:=a5 Tryz.func53
theorem tt:aY Tryz.prog 54:=a5 Tryz.func54
theorem p9:aY Tryz.prog 55:=a5 Tryz.func55
theorem tu:aY Tryz.prog 56:=a5 Tryz.func56
theorem z8:aY Tryz.prog 57:=a5 Tryz.func57
theorem z9:aY Tryz.prog 58:=a5 Tryz.func58
theorem Aa:aY Tryz.prog 59:=a5 Tryz.func59
theorem Ab:aY Tryz.prog 60:=a5 Tryz.func60
theorem mJ:aY Tryz.prog 61:=a5 Tryz.func61
theorem Ac:aY Tryz.prog 62:=a5 Tryz.func62
theorem Ad:aY Tryz.prog 63:=a5 Tryz.func63
theorem Ae:aY Tryz.prog 64:=a5 Tryz.func64
theorem tv:aY Tryz.prog 65:=a5 Tryz.func65
theorem jr:aY Tryz.prog 66:=a5 Tryz.func66
theorem tw:aY Tryz.prog 67:=a5 Tryz.func67
theorem n9:aY Tryz.prog 68:=a5 Tryz.func68
theorem Af:aY Tryz.prog 69:=a5 Tryz.func69
theorem Ag:aY Tryz.prog 70:=a5 Tryz.func70
theorem Ah:aY Tryz.prog 71:=a5 Tryz.func71
theorem Ai:aY Tryz.prog 72:=a5 Tryz.func72
theorem qa:aY Tryz.prog 73:=a5 Tryz.func73
theorem tx:aY Tryz.prog 74:=a5 Tryz.func74
theorem tz:aY Tryz.prog 75:=a5 Tryz.func75
theorem Aj:aY Tryz.prog 76:=a5 Tryz.func76
theorem tA:aY Tryz.prog 77:=a5 Tryz.func77
theorem Ak:aY Tryz.prog 87:=a5 Tryz.func87
theorem tB:aY Tryz.prog 88:=a5 Tryz.func88
theorem Al:aY Tryz.prog 89:=a5 Tryz.func89
theorem Am:aY Tryz.prog 90:=a5 Tryz.func90
theorem An:aY Tryz.prog 91:=a5 Tryz.func91
theorem mK:aY Tryz.prog 92:=a5 Tryz.func92
theorem tC:aY Tryz.prog 93:=a5 Tryz.func93
theorem qc:aY Tryz.prog 94:=a5 Tryz.func94
theorem Ao:aY Tryz.prog 95:=a5 Tryz.func95
theorem qd:aY Tryz.prog 96:=a5 Tryz.func96
theorem oa:aY Tryz.prog 97:=a5 Tryz.func97
theorem qe:aY Tryz.prog 98:=a5 Tryz.func98
theorem tD:aY Tryz.prog 99:=a5 Tryz.func99
theorem A3:∀ (l:List UInt8) (c:UInt8) (w:World),(callFunc 185 #[str l,.int .u8 c.toNat]).run Tryz.prog w= .ok (.value (.int .i64 (l.count c:Nat))) w:=GK Tryz.func185 ab ab ab ab
theorem Bv:∀ v w,(callFunc 110 #[v]).run Tryz.prog w= .ok (.value v) w:=fun v w=>ab
theorem tM:cU Tryz.prog 105=some 2:=ab
theorem Bw:cU Tryz.prog 139=some 1:=ab
theorem Bx:cU Tryz.prog 141=some 1:=ab
theorem qm:cU Tryz.prog 155=some 7:=ab
theorem lN:cU Tryz.prog 157=some 5:=ab
theorem tN:cU Tryz.prog 211=some 1:=ab
theorem k9:cU Tryz.prog 213=some 1:=ab
theorem qo:cU Tryz.prog 22=some 1:=ab
theorem By:cU Tryz.prog 225=some 1:=ab
theorem j8:cU Tryz.prog 227=some 4:=ab
theorem dW:cU Tryz.prog 25=some 3:=ab
theorem oh:cU Tryz.prog 266=some 1:=ab
theorem ju:cU Tryz.prog 3=some 1:=ab
theorem Bz:cU Tryz.prog 39=some 1:=ab
theorem tO:cU Tryz.prog 4=some 1:=ab
theorem BA:cU Tryz.prog 48=some 1:=ab
theorem BB:cU Tryz.prog 50=some 2:=ab
theorem om:cU Tryz.prog 54=some 1:=ab
theorem jv:cU Tryz.prog 56=some 2:=ab
theorem BC:cU Tryz.prog 64=some 1:=ab
theorem dE:cU Tryz.prog 71=some 1:=ab
theorem tP:cU Tryz.prog 74=some 1:=ab
theorem BD:cU Tryz.prog 81=some 5:=ab
theorem tQ:cU Tryz.prog 82=some 1:=ab
theorem tR:cU Tryz.prog 83=some 1:=ab
theorem tS:cU Tryz.prog 84=some 1:=ab
theorem tT:cU Tryz.prog 85=some 1:=ab
theorem tU:cU Tryz.prog 87=some 13:=ab
theorem j9:cU Tryz.prog 9=some 1:=ab
theorem BE:cU Tryz.prog 99=some 2:=ab
theorem jw:eH Tryz.prog 139=some 1:=ab
theorem Cx:eH Tryz.prog 169=some 1:=ab
theorem Cy:eH Tryz.prog 211=some 4:=ab
theorem gT:eH Tryz.prog 39=some 2:=ab
theorem ux:eH Tryz.prog 45=some 2:=ab
theorem bT:eH Tryz.prog 48=some 1:=ab
theorem ba:eH Tryz.prog 54=some 1:=ab
theorem Cz:eH Tryz.prog 64=some 1:=ab
theorem lS:eH Tryz.prog 74=some 2:=ab
theorem qy:eH Tryz.prog 83=some 1:=ab
theorem CA:eH Tryz.prog 84=some 5:=ab
theorem qz:eH Tryz.prog 85=some 7:=ab
theorem oG:cz Tryz.prog 105 0=some 0:=ab
theorem mX:cz Tryz.prog 105 1=some 1:=ab
theorem mY:cz Tryz.prog 108 0=some 0:=ab
theorem uR:cz Tryz.prog 108 1=some 1:=ab
theorem qI:cz Tryz.prog 143 0=some 0:=ab
theorem oH:cz Tryz.prog 143 1=some 1:=ab
theorem C2:cz Tryz.prog 155 3=some 3:=ab
theorem C3:cz Tryz.prog 155 4=some 4:=ab
theorem C4:cz Tryz.prog 155 5=some 5:=ab
theorem oI:cz Tryz.prog 155 6=some 6:=ab
theorem qJ:cz Tryz.prog 157 0=some 0:=ab
theorem oJ:cz Tryz.prog 157 1=some 1:=ab
theorem uS:cz Tryz.prog 157 2=some 2:=ab
theorem C5:cz Tryz.prog 157 3=some 3:=ab
theorem qK:cz Tryz.prog 157 4=some 4:=ab
theorem lh:cz Tryz.prog 213 0=some 0:=ab
theorem mZ:cz Tryz.prog 44 0=some 0:=ab
theorem kE:cz Tryz.prog 44 1=some 1:=ab
theorem C6:cz Tryz.prog 44 2=some 2:=ab
theorem C7:cz Tryz.prog 44 3=some 3:=ab
theorem C8:cz Tryz.prog 50 1=some 1:=ab
theorem lU:cz Tryz.prog 56 0=some 0:=ab
theorem ka:cz Tryz.prog 56 1=some 1:=ab
theorem lV:cz Tryz.prog 87 0=some 0:=ab
theorem C9:cz Tryz.prog 87 1=some 1:=ab
theorem Da:cz Tryz.prog 87 2=some 2:=ab
theorem uT:cz Tryz.prog 87 3=some 3:=ab
theorem qL:cz Tryz.prog 87 4=some 8:=ab
theorem oK:cz Tryz.prog 87 5=some 9:=ab
theorem kb:cz Tryz.prog 87 6=some 10:=ab
theorem lW:cz Tryz.prog 87 7=some 11:=ab
theorem ke:cz Tryz.prog 87 8=some 12:=ab
theorem dQ:cz Tryz.prog 89 0=some 0:=ab
theorem uU:cz Tryz.prog 89 1=some 13:=ab
theorem dX:cz Tryz.prog 92 0=some 0:=ab
theorem m3:cz Tryz.prog 92 1=some 1:=ab
theorem m4:cz Tryz.prog 92 2=some 2:=ab
theorem Db:cz Tryz.prog 92 3=some 3:=ab
theorem lX:cz Tryz.prog 92 4=some 4:=ab
theorem qM:cz Tryz.prog 92 5=some 5:=ab
theorem qN:cz Tryz.prog 92 6=some 6:=ab
theorem uV:cz Tryz.prog 99 0=some 0:=ab
theorem uW:cz Tryz.prog 99 1=some 1:=ab
theorem DU:(Tryz.prog.info? 143).isSome=true :=ab
theorem Ea:∀ (l:List UInt8) (c:UInt8) (w:World),(callFunc 169 #[str l,.int .u8 c.toNat]).run Tryz.prog w= .ok (.value (.int .i64 (cX c l))) w:=GL Tryz.func169 ab ab ab ab
theorem lj:jk Tryz.prog 71 (kg .u16):=Eg (q:= .u16) ab
theorem eI:jk Tryz.prog 9 eQ:=Eh ab
theorem rk:lk Tryz.prog 25=true :=ab
theorem F9:ptrTo Tryz.prog 183 5=true :=ab
theorem gp:eo Tryz.prog 139 5 1 1=true :=ab
theorem pd:eo Tryz.prog 211 227 4 32=true :=ab
theorem pf:eo Tryz.prog 39 56 2 40=true :=ab
theorem ph:eo Tryz.prog 45 50 2 32=true :=ab
theorem dC:eo Tryz.prog 48 9 1 16=true :=ab
theorem pj:eo Tryz.prog 54 71 1 2=true :=ab
theorem pk:eo Tryz.prog 64 3 1 8=true :=ab
theorem xx:eo Tryz.prog 74 105 2 32=true :=ab
theorem po:eo Tryz.prog 82 163 2 32=true :=ab
theorem pq:eo Tryz.prog 83 54 1 24=true :=ab
theorem pw:eo Tryz.prog 84 157 5 40=true :=ab
theorem pz:eo Tryz.prog 85 155 7 88=true :=ab
theorem He:g7 Tryz.prog 105=some ([(0,1),(1,1)],[.int .i64 0,.slice none 0 0]):=ab
theorem Hf:g7 Tryz.prog 108=some ([(0,1),(1,1)],[.slice none 0 0,.map none]):=ab
theorem Hg:g7 Tryz.prog 155=some ([(0,1),(1,1),(2,1),(3,1),(4,1),(5,1),(6,1)],[.int .i64 0,.int .u16 0,.bool false,.string ⟨⟨[]⟩⟩,.string ⟨⟨[]⟩⟩,.string ⟨⟨[]⟩⟩,.slice none 0 0]):=ab
theorem rW:g7 Tryz.prog 157=some ([(0,1),(1,1),(2,1),(3,1),(4,1)],[.int .u16 0,.int .i64 0,.bool false,.int .i64 0,.int .i64 0]):=ab
theorem Hh:g7 Tryz.prog 163=some ([(0,1),(1,1)],[.string ⟨⟨[]⟩⟩,.string ⟨⟨[]⟩⟩]):=ab
theorem nv:g7 Tryz.prog 213=some ([(0,1)],[.slice none 0 0]):=ab
theorem iU:g7 Tryz.prog 25=some ([(0,1),(1,1),(2,1)],[.int .i64 0,.int .i64 0,.int .i64 0]):=ab
theorem xB:g7 Tryz.prog 50=some ([(0,1),(1,1)],[.int .i64 0,.slice none 0 0]):=ab
theorem kn:g7 Tryz.prog 56=some ([(0,1),(1,1)],[.string ⟨⟨[]⟩⟩,.slice none 0 0]):=ab
theorem Hi:g7 Tryz.prog 89=some ([(0,13),(13,1)],[.int .i64 0,.string ⟨⟨[]⟩⟩,.string ⟨⟨[]⟩⟩,.int .u16 0,.int .u16 0,.int .u16 0,.int .u16 0,.int .u16 0,.int .i64 0,.slice none 0 0,.slice none 0 0,.slice none 0 0,.slice none 0 0,.map none]):=ab
theorem Hj:g7 Tryz.prog 92=some ([(0,1),(1,1),(2,1),(3,1),(4,1),(5,1),(6,1)],[.pointer none,.slice none 0 0,.int .i64 0,.int .i64 0,.map none,.map none,.slice none 0 0]):=ab
theorem iD:g7 Tryz.prog 99=some ([(0,1),(1,1)],[.int .i64 0,.nilFunc]):=ab
theorem xM:Tryz.prog.underlying 106=some (.map 9 64):=ab
theorem jN:Tryz.prog.underlying 139=some (.slice 5):=ab
theorem xN:Tryz.prog.underlying 141=some (.pointer 143):=ab
theorem HI:Tryz.prog.underlying 169=some (.slice 71):=ab
theorem r3:Tryz.prog.underlying 211=some (.slice 227):=ab
theorem ny:Tryz.prog.underlying 22=some (.pointer 89):=ab
theorem xP:Tryz.prog.underlying 224=some (.int .u64):=ab
theorem HJ:Tryz.prog.underlying 266=some (.int .u64):=ab
theorem nz:Tryz.prog.underlying 28=some (.pointer 108):=ab
theorem u3:Tryz.prog.underlying 3=some (.int .i64):=ab
theorem jO:Tryz.prog.underlying 39=some (.slice 56):=ab
theorem nA:Tryz.prog.underlying 45=some (.slice 50):=ab
theorem ea:Tryz.prog.underlying 48=some (.slice 9):=ab
theorem u5:Tryz.prog.underlying 5=some (.int .u8):=ab
theorem iF:Tryz.prog.underlying 54=some (.slice 71):=ab
theorem u64:Tryz.prog.underlying 64=some (.slice 3):=ab
theorem pC:Tryz.prog.underlying 71=some (.int .u16):=ab
theorem pD:Tryz.prog.underlying 74=some (.slice 105):=ab
theorem dD:Tryz.prog.underlying 80=some (.map 71 3):=ab
theorem HK:Tryz.prog.underlying 82=some (.slice 163):=ab
theorem pE:Tryz.prog.underlying 83=some (.slice 54):=ab
theorem xR:Tryz.prog.underlying 84=some (.slice 157):=ab
theorem pF:Tryz.prog.underlying 85=some (.slice 155):=ab
theorem u9:Tryz.prog.underlying 9=some (.string):=ab
theorem kN:Tryz.prog.underlying 90=some (.map 9 3):=ab
theorem g8:Tryz.prog.underlying 94=some (.map 9 99):=ab
theorem xU:nD Tryz.prog 141 202 143 2=true :=ab
theorem HT:(Tryz.prog.underlying 224).isSome=true :=ab
theorem HU:(Tryz.prog.underlying 225).isSome=true :=ab
theorem lz:(Tryz.prog.underlying 3).isSome=true :=ab
theorem nE:(Tryz.prog.underlying 5).isSome=true :=ab
theorem wide:Tryz.prog.follows .mixedOrders=true :=ab
theorem ye:zeroOf Tryz.prog 105=some (some [.int .i64 0,.slice none 0 0]):=ab
theorem yf:zeroOf Tryz.prog 143=some (some [.pointer none,.slice none 0 0]):=ab
theorem sd:zeroOf Tryz.prog 155=some (some [.int .i64 0,.int .u16 0,.bool false,.string ⟨⟨[]⟩⟩,.string ⟨⟨[]⟩⟩,.string ⟨⟨[]⟩⟩,.slice none 0 0]):=ab
theorem nH:zeroOf Tryz.prog 157=some (some [.int .u16 0,.int .i64 0,.bool false,.int .i64 0,.int .i64 0]):=ab
theorem se:zeroOf Tryz.prog 213=some (some [.slice none 0 0]):=ab
theorem Ig:zeroOf Tryz.prog 22=some (some [.pointer none]):=ab
theorem lB:zeroOf Tryz.prog 227=some (some [.int .u64 0,.int .u64 0,.int .u64 0,.int .u64 0]):=ab
theorem gd:zeroOf Tryz.prog 25=some (some [.int .i64 0,.int .i64 0,.int .i64 0]):=ab
theorem Ih:zeroOf Tryz.prog 266=some (some [.int .u64 0]):=ab
theorem Ii:zeroOf Tryz.prog 3=some (some [.int .i64 0]):=ab
theorem Ij:zeroOf Tryz.prog 48=some (some [.slice none 0 0]):=ab
theorem Ik:zeroOf Tryz.prog 50=some (some [.int .i64 0,.slice none 0 0]):=ab
theorem yg:zeroOf Tryz.prog 56=some (some [.string ⟨⟨[]⟩⟩,.slice none 0 0]):=ab
theorem Il:zeroOf Tryz.prog 74=some (some [.slice none 0 0]):=ab
theorem Im:zeroOf Tryz.prog 81=some (some [.int .u16 0,.int .u16 0,.int .u16 0,.int .u16 0,.int .u16 0]):=ab
theorem yh:zeroOf Tryz.prog 87=some (some [.int .i64 0,.string ⟨⟨[]⟩⟩,.string ⟨⟨[]⟩⟩,.int .u16 0,.int .u16 0,.int .u16 0,.int .u16 0,.int .u16 0,.int .i64 0,.slice none 0 0,.slice none 0 0,.slice none 0 0,.slice none 0 0]):=ab
theorem Io:zeroOf Tryz.prog 9=some (some [.string ⟨⟨[]⟩⟩]):=ab
theorem Ip:zeroOf Tryz.prog 99=some (some [.int .i64 0,.nilFunc]):=ab
theorem Iq:zeroOf Tryz.prog 204=some (some (List.replicate 256 (.bool false))):=ab
theorem Ir:zeroV Tryz.prog 25=some (.agg #[.int .i64 0,.int .i64 0,.int .i64 0]):=ab
theorem jU:zeroV Tryz.prog 3=some (.int .i64 0):=ab
theorem Is:zeroV Tryz.prog 5=some (.int .u8 0):=ab
theorem It:zeroV Tryz.prog 64=some (.slice none 0 0):=ab
theorem Iu:zeroV Tryz.prog 71=some (.int .u16 0):=ab
theorem Iv:zeroV Tryz.prog 99=some (.agg #[.int .i64 0,.nilFunc]):=ab
end Go.Hb.c6
end
section
set_option maxRecDepth 20000
set_option maxHeartbeats 1000000
namespace Go.Hb.Builder
open Go.Hb.c6
open Go.Proofs
theorem Bc (b:Nat) (c:Option Addr) (j:Value) (w:World) (a:w.heap[b]? =some (.cells [Value.pointer c,j].toArray 143 (0,0))) (hp:c=none∨c=some ⟨b,0,none⟩):
 a3 Tryz.prog 87 (List.toArray [a6 b]) w (fun v w'=>v= .tuple #[]∧w'.heap[b]? =some (.cells [Value.pointer (some ⟨b,0,none⟩),j].toArray 143 (0,0))∧Md (fun k=>k=b) w w'):=by
 refine enter Tryz.func87 U Tryz.ntmps87 U (ag (fun _ q=>(aj (a6 b) (p (nc U) (p (fa qI U) (p (ld sy U ((a4 a).trans U)) (p (jc xN U U) (nl (tn (q _ _ (cb U (fun i=> ?_) (fun i=> ?_))))))))))))
 obtain rfl :c=none:=by simpa using i
 exact rg U (aj (a6 b) (aj (a6 b) (p (Hy xU U a U) (p (A1 Bv U) (p (Dh xU U a U) (p (nc U) (p (fa qI U) (e (dp Bx U U U a (by simp) fun E C A=>nl (f0 U (⟨U,A,C⟩)))))))))))
 obtain rfl :c=some ⟨b,0,none⟩:=hp.resolve_left (by rintro rfl; simp at i)
 exact ag (fun _ s=>(aj (a6 b) (p (nc U) (p (fa qI U) (p (ld sy U ((a4 a).trans U)) (aj (a6 b) (p (E7 xN DU U U) (az ((s _ _ (cf U (aH (f0 U (⟨U,a,Md.refl _ _⟩))))))))))))))
theorem yd (b:Nat) (i:Value) (l:List UInt8) (c:UInt8) (w:World) (ah:Bd 143 5 w b i l) (av:l.length≤70368744177664):
 a3 Tryz.prog 54 (List.toArray [a6 b,.int .u8 c.toNat]) w (fun v w'=>v= .nilIface∧∃ A,Bd 143 5 w' b A (l++ [c])∧Md (BF b i) w w'∧∀ k,BF b A k→BF b i k∨w.heap.size≤k):=by
 obtain ⟨⟨ao,I,am⟩,hown,hnil⟩:=ah
 have ax:b < w.heap.size:=(Array.getElem?_eq_some_iff.1 I).1
 have J:∀ k,i.ownBlock=some k→k≠b∧k < w.heap.size:=fun k hk=>by have :=hown.lt k hk; exact ⟨aa,this.2⟩
 refine enter Tryz.func54 U Tryz.ntmps54 U (ag (fun _ O=>(au (((O _ _ (ag (fun _ V=>(aj (a6 b) (e (cl Ak (Bc b ao i w I am) U fun v6 aG ae=> ?_)))))))))))
 obtain ⟨_,G,q⟩:=ae
 have al:=bK hown q (fun k hk=>(J k hk).1)
 have ay:=q.size
 refine az ((V _ _ (ag (fun _ Y=>(aj (a6 b) (aj (a6 b) (p (nc U) (p (fa oH U) (p (ld pO U ((a4 G).trans U)) (aj (.int .u8 c.toNat) (e (eY gp U U fun aq aB ar j ac=>e (ap gp (aE al j.md) U (by have :=j.size; omega) U (aw.dj ac) (U) (U) aa aa fun M aD s C an ak=> ?_)))))))))))))
 have ai:=C.aC (Wk.aC j.md G) (fun h=>(J b h).1 rfl)
 refine p (nc U) (p (fa oH U) (e (dp Bw U U (by obtain ⟨a,c,h,_⟩:=l7 s; exact congrArg Value.oneCell' h) ai (by simp) fun aF E ad=>az ((Y _ _ (ag (fun _ Z=>(p aA (az ((Z _ _ (rt (f1 U U ?_)))))))))))))
 have ab:∀ k,M.ownBlock=some k→k≠b:=fun k hk=>by have :=s.lt k hk; omega
 refine ⟨U,M,⟨⟨_,ad,.inr U⟩,?_,?_⟩,?_,?_⟩
 rw [List.length_append,nQ]; exact bK s E (fun k hk=>ab k hk)
 rw [an]; simp
 refine Md.trans' (Md.trans' (Md.trans' (q.mono (fun k _ h=> .inl h)) j.md (fun _ _ h=>h.elim)) C (fun k _ h=> .inr h)) E (fun k _ h=> .inl h)
 rintro k (rfl | hk)
 exact .inl (.inl U)
 by_cases h:i.ownBlock=some k
 exact .inl (.inr h)
 have :=ak k hk; have h1:=q.size; have h2:=j.md.size; exact .inr (by rcases this with h3 | h3; exact absurd h3 h; omega)
theorem rY (b:Nat) (q:Value) (l:List UInt8) (w:World) (G:Bd 143 5 w b q l) (O:l.length≤70368744177664):
 a3 Tryz.prog 55 (List.toArray [a6 b]) w (fun v w'=>v=str l∧Md (fun k=>q.ownBlock=some k) w w'):=by
 obtain ⟨⟨Z,s,V⟩,hown,hnil⟩:=G
 obtain ⟨a,c,rfl,J,hle,hk,M⟩:=l7 hown
 refine enter Tryz.func55 U Tryz.ntmps55 U (ag (fun _ A=>(au (((A _ _ (sq (fun _ C=> ?_))))))))
 have i:(fun w'=>Md (fun k=>(Value.slice a l.length c).ownBlock=some k) w w') w.drew:=(Md.refl _ _).drew
 refine bS (fun w'=>Md (fun k=>(Value.slice a l.length c).ownBlock=some k) w w') U wide i (bH 0 U (a6 b) i (aT 1 U (fun _ _=>nc U) i (aT 2 U (fun _ _=>fa oH U) i (aT 3 U (fun w' j=>ld pO U (j.aG ((a4 s).trans U) (fun h=>by have :=hown.lt _ h; omega))) i (bH 5 U (a6 b) i (aT 6 U (fun _ _=>nc U) i (aT 7 U (fun _ _=>fa oH U) i (aT 8 U (fun w' j=>ld pO U (j.aG ((a4 s).trans U) (fun h=>by have :=hown.lt _ h; omega))) i (aT 9 U (fun _ _=>bo jN U U) i ?_)))))))))
 refine aT 4 U (fun _ _=>HV (v:= .nilFunc) U (by
  by_cases h:l= []
  have :=hnil.2 h; simp only [Value.slice.injEq] at this; exact .inl this.1
  right; have :0 < l.length:=List.length_pos_iff.2 h; omega)) i ?_
 refine he 10 U ab (HW F9 U U hown U aa fun I E Y=> ?_)
 have p:(fun w'=>Md (fun k=>(Value.slice a l.length c).ownBlock=some k) w w') I:=i.trans' E (fun _ _ h=>h)
 refine ⟨p,?_⟩
 exact aT 11 U (fun _ _=>aA) p (hn ab (tn (C _ _ (rt (f1 U U (⟨U,p⟩))))))
end Go.Hb.Builder
end
section
set_option maxRecDepth 20000
set_option maxHeartbeats 1000000
namespace Go.Hb.jZ
open Go.Hb.c6
open Go.Proofs
open Go.Hb.Builder
theorem iN (b:UInt8):lg b=decide ((b.toNat:Int)=92∨(b.toNat:Int)=47∨(b.toNat:Int)=35):=by
 unfold lg; exact decide_eq_decide.2 aa
theorem uJ (b:UInt8):e5 b=decide (32 < (b.toNat:Int)∧(b.toNat:Int)≠127):=by
 unfold e5; exact decide_eq_decide.2 aa
theorem CN {b:UInt8} (h:¬(32 < (b.toNat:Int)∧(b.toNat:Int)≠127)):e5 b=false :=by rw [uJ]; exact decide_eq_false h
theorem uK (b:UInt8) (w:World):
 a3 Tryz.prog 103 (List.toArray [.int .u8 b.toNat]) w (fun v w'=>v= .bool (e5 b)∧Wk w w'):=by
 refine enter Tryz.func103 U Tryz.ntmps103 U (ag (fun _ c=>(au (((c _ _ (ag (fun _ a=>(aj (.int .u8 b.toNat) (p (gt U U) (p mv (gs (t:=5) U (fun i=> ?_) (fun i=> ?_)))))))))))))
 exact pg U U U (aB (.int .u8 b.toNat) U) (pg U U U (dF U U) (p (bE U) (au (((a _ _ (rt (f1 U U (⟨by show Value.bool (decide _)=_; rw [uJ]; exact bv (by constructor <;> intro h <;> first | exact ⟨aa,h⟩ | exact h.2),Md.refl _ _⟩)))))))))
 exact sk U U U U (sk U U U U (p (bj U) (au (((a _ _ (rt (f1 U U (⟨by show Value.bool false =_; rw [CN aa],Md.refl _ _⟩)))))))))
theorem EU (b:UInt8) (w:World):
 a3 Tryz.prog 53 (List.toArray [.int .u8 b.toNat]) w (fun v w'=>v= .bool (lg b)∧Wk w w'):=by
 refine enter Tryz.func53 U Tryz.ntmps53 U (ag (fun _ s=>(au (((s _ _ (sq (fun _ j=>ag (fun _ A=>aj (.int .u8 b.toNat) (az ((A _ _ (aC (sq (fun _ q=>ag (fun _ C=>(p (bp U U) (au (((C _ _ (cd U (fun a=> ?_) (fun a=> ?_)))))))))))))))))))))))
 refine aH (tn (q _ _ (cd U (fun a=> ?_) (fun a=> ?_))))
 refine ag (fun _ i=>(au (((i _ _ (rt (br (tr (f1 U U ?_)))))))))
 first | exact ⟨by show Value.bool true =_; rw [iN,decide_eq_true aa],Md.refl _ _⟩ | exact ⟨by show Value.bool false =_; rw [iN,decide_eq_false aa],Md.refl _ _⟩
 refine aH (bn (tn (j _ _ (ag (fun _ i=>(au (((i _ _ (rt (f1 U U ?_)))))))))))
 first | exact ⟨by show Value.bool true =_; rw [iN,decide_eq_true aa],Md.refl _ _⟩ | exact ⟨by show Value.bool false =_; rw [iN,decide_eq_false aa],Md.refl _ _⟩
 refine ag (fun _ i=>(p (bp U U) (au (((i _ _ (cd U (fun a=> ?_) (fun a=> ?_))))))))
 refine aH (tn (q _ _ (cd U (fun a=> ?_) (fun a=> ?_))))
 refine ag (fun _ c=>(au (((c _ _ (rt (br (tr (f1 U U ?_)))))))))
 first | exact ⟨by show Value.bool true =_; rw [iN,decide_eq_true aa],Md.refl _ _⟩ | exact ⟨by show Value.bool false =_; rw [iN,decide_eq_false aa],Md.refl _ _⟩
 refine aH (bn (tn (j _ _ (ag (fun _ c=>(au (((c _ _ (rt (f1 U U ?_)))))))))))
 first | exact ⟨by show Value.bool true =_; rw [iN,decide_eq_true aa],Md.refl _ _⟩ | exact ⟨by show Value.bool false =_; rw [iN,decide_eq_false aa],Md.refl _ _⟩
 refine rg U (p (bp U U) (au (((q _ _ (cd U (fun a=> ?_) (fun a=> ?_)))))))
 refine ag (fun _ c=>(au (((c _ _ (rt (br (tr (f1 U U ?_)))))))))
 first | exact ⟨by show Value.bool true =_; rw [iN,decide_eq_true aa],Md.refl _ _⟩ | exact ⟨by show Value.bool false =_; rw [iN,decide_eq_false aa],Md.refl _ _⟩
 refine aH (bn (tn (j _ _ (ag (fun _ c=>(au (((c _ _ (rt (f1 U U ?_)))))))))))
 first | exact ⟨by show Value.bool true =_; rw [iN,decide_eq_true aa],Md.refl _ _⟩ | exact ⟨by show Value.bool false =_; rw [iN,decide_eq_false aa],Md.refl _ _⟩
theorem x4 (s:List UInt8) (w:World) (hs:s.length≤1048576):
 a3 Tryz.prog 74 (List.toArray [str s]) w (fun v w'=>v= .bool (kp s)∧Wk w w'):=by
 refine enter Tryz.func74 U Tryz.ntmps74 U (ag (fun _ Y=>(au (((Y _ _ (sq (fun _ ac=>ag (fun _ I=>aj (str s) (p (fJ U U) (p mv (gs (t:=6) U (fun E=> ?_) (fun E=> ?_)))))))))))))
 exact sk U U U U (sk U U U U (sk U U U U (p (bE U) (az ((I _ _ (ct U (sq (fun _ a=>rg U (au (((a _ _ (rt (tr (f1 U U (⟨by show Value.bool false =_; unfold kp; rw [decide_eq_false (by rw [E]; simp)],Md.refl _ _⟩)))))))))))))))))
 refine pg U U U (aB (str s) U) (pg U U U (cA u9 U U) (pg U U U (gt U U) (p (bj U) (az ((I _ _ (cd U (fun am=> ?_) (fun am=> ?_))))))))
 exact ag (fun _ a=>(au (((a _ _ (rt (tr (f1 U U (⟨by show Value.bool false =_; unfold kp; rw [decide_eq_false aa],Md.refl _ _⟩)))))))))
 refine aH (tn (ac _ _ (sq (fun _ a=>ag (fun _ ae=>(aj (str s) (p (cA u9 U U) (p mv (az ((ae _ _ (aC (lp (fun J c V=> ∃ (i:Nat),(i≤s.length∧1≤s.length∧s.length≤64)∧(∀ j,j < i→e5 (s.getD j 0)=true)∧(Wk w V)∧(c 0=str s)∧(c 12= .int .i64 s.length)∧(c 13= .int .i64 i)∧(s.length - i=J)) _ ⟨0,(⟨aa,by rcases Nat.eq_zero_or_pos s.length with h | h <;> first | exact absurd (List.length_eq_zero_iff.1 h) E | exact h,aa⟩),((fun j O=>by omega)),(Md.refl _ _),U,U,U,U⟩ ?_)))))))))))))
 rintro J c V ⟨i,hi,hp,A,ao,ap,aq,rfl⟩
 refine fx 0 ao (fx 12 ap (fx 13 aq (ag (fun _ ah=>(p (lt U U) (az ((ah _ _ (sq (fun _ ai=>cd U (fun an=> ?_) (fun an=> ?_)))))))))))
 refine aH (tn (ai _ _ (sq (fun _ q=>aC (ag (fun _ ak=>(aj (.int .i64 i) (p (bG (.int .i64 i) U) (az ((ak _ _ (ag (fun _ Z=>(aj (str s) (aj (.int .i64 i) (p (e7 u9 U U aa) (e (cl s0 (uK (s.getD i 0) _) U fun ar av al=> ?_))))))))))))))))))
 obtain ⟨rfl,M⟩:=al
 refine p (no U) (az ((Z _ _ (cb U (fun C=> ?_) (fun C=> ?_)))))
 have G:e5 (s.getD i 0)=false :=by simpa using C
 exact ag (fun _ ab=>(au (((ab _ _ (rt (br (tr (tr (br (tr (f1 U U (⟨by show Value.bool false =_; unfold kp; rw [n4 (i:=i) aa G,decide_eq_false (by simp)],Md.trans A M⟩)))))))))))))
 have G:e5 (s.getD i 0)=true :=by simpa using C
 exact aH (bn (tn (q _ _ (rg U (p (ad U U (bu aa)) (p mv (nl (tn (⟨_,aa,i+1,aa,((fun j O=>by rcases Nat.lt_or_ge j i with h | h <;> first | exact hp j h | (rw [show j=i by omega]; exact G))),(Md.trans A M),U,U,U,U⟩)))))))))
 exact ext (te _ (te _ (be (tn (a _ _ (ag (fun _ q=>(p aA (az ((q _ _ (rt (f1 U U (⟨by show Value.bool true =_; unfold kp; rw [n5 (fun j O=>hp j aa),decide_eq_true ⟨hi.2.1,hi.2.2,U⟩],A⟩))))))))))))))
theorem r9 (s:List UInt8) (w:World) (hs:s.length≤1048576):
 a3 Tryz.prog 73 (List.toArray [str s]) w (fun v w'=>v=Gc (a8 s)∧Wk w w'):=by
 refine enter Tryz.func73 U Tryz.ntmps73 U (ag (fun _ am=>(p aA (p aA (p aA (au (((am _ _ (ag (fun _ av=>(e (fC yf fun a bl ba aN aG=>az ((av _ _ (sq (fun _ aw=>ag (fun _ ax=>au (((ax _ _ (aC (lp (fun ak G E=> ∃ (i:Nat) (acc:List UInt8) (c:Value),(i≤s.length∧acc.length≤i)∧(Bd 143 5 E a c acc)∧(Wk w E)∧(fA acc (s.drop i)=a8 s)∧(G 0=str s)∧(G 6=a6 a)∧(G 7= .int .i64 i)∧(s.length - i=ak)) _ ⟨0,[],.slice none 0 0,(by simp),(Bd.new aG),aN.md,U,U,U,U,U⟩ ?_)))))))))))))))))))))))
 rintro ak G E ⟨i,acc,c,hi,j,q,hd,a0,a1,a2,rfl⟩
 refine fx 0 a0 (fx 6 a1 (fx 7 a2 (sq (fun _ ay=>ag (fun _ aD=>(aj (.int .i64 i) (aj (str s) (p (cA u9 U U) (p (lt U U) (az ((aD _ _ (cd U (fun aV=> ?_) (fun aV=> ?_))))))))))))))
 refine aH (tn (ay _ _ (sq (fun _ O=>aC (ag (fun _ aE=>(aj (str s) (aj (.int .i64 i) (p (e7 u9 U U aa) (az ((aE _ _ (aC ?_)))))))))))))
 refine dA (fun I ae=> ∃ (k:Nat),(k < s.length∧i≤k∧k≤i+1)∧(Bd 143 5 ae a c acc)∧(Wk w ae)∧(fA (acc++ [s.getD k 0]) (s.drop (k+1))=a8 s)∧(I 0=str s)∧(I 6=a6 a)∧(I 7= .int .i64 k)) ?_ ?_
 refine aC (sq (fun _ V=>aC (sq (fun _ an=>aC (sq (fun _ ap=>sq (fun _ aq=>sq (fun _ ar=>rg U (p (bp U U) (au (((ar _ _ (cd U (fun aW=> ?_) (fun aW=> ?_)))))))))))))))
 have aS:(s.getD i 0).toNat=47:=aa
 refine ext (te _ (te _ (be (tn (an _ _ (sq (fun _ ah=>sq (fun _ J=> ?_))))))))
 have A:(fun w'=>True) E.drew:=trivial
 refine bS (fun w'=>True) U wide A (bH 1 U (str s) A (bH 2 U (.int .i64 i) A (aT 3 U (fun _ _=>bm ((i+1:Nat):Int) U U (aU aa aa)) A (aT 4 U (fun _ _=>km u9 U U aa) A (he 0 U ab (cl p9 (rY a c acc _ (j.md (Md.refl (fun _=>False) _).drew (fun _ _ h=>h)) aa) U fun bc a9 aO=> ?_))))))
 obtain ⟨rfl,aK⟩:=aO
 have C:(fun w'=>True) a9:=trivial
 refine ⟨C,?_⟩
 refine aT 5 U (fun _ _=>aA) C (aT 6 U (fun _ _=>aA) C (aT 7 U (fun _ _=>aA) C (aT 8 U (fun _ _=>aA) C (hn ab (tn (J _ _ (rt (tr (br (tr (br (tr (br (br (tr (tr (br (tr (f4 U U U U U ?_)))))))))))))))))))
 skip
 exact ⟨by rw [← hd,drop_cons 0 (by omega :i < s.length),yc aS]; rfl,j.rX q (Md.trans (Md.refl _ _).drew aK) aa⟩
 refine aH (tn (aq _ _ (ag (fun _ ah=>(p (bp U U) (au (((ah _ _ (cd U (fun aX=> ?_) (fun aX=> ?_)))))))))))
 have Z:(s.getD i 0).toNat=92:=aa
 refine ext (te _ (jo ao (te _ (be (tn (V _ _ (ag (fun _ J=>aj (.int .i64 i) (p (bm ((i+1:Nat):Int) U U (aU aa aa)) (au (((J _ _ (ag (fun _ ai=>(p mv (aj (str s) (p (cA u9 U U) (p (bp U U) (p mv (gs (t:=32) U (fun aZ=> ?_) (fun aZ=> ?_))))))))))))))))))))))
 exact sk U U U U (sk U U U U (sk U U U U (sk U U U U (sk U U U U (p (bE U) (az ((ai _ _ (ct U (ag (fun _ M=>(p aA (p aA (p aA (p aA (nl (tn (M _ _ (rt (br (tr (br (br (tr (tr (br (tr (f4 U U U U U (⟨by rw [← hd,drop_cons 0 (by omega :i < s.length),List.drop_eq_nil_of_le aa,x9 Z]; rfl,q⟩)))))))))))))))))))))))))))))
 refine pg U U U (aB (str s) U) (pg U U U mv (pg U U U (e7 u9 U U aa) (eg U U U (cl z7 (EU (s.getD (i+1) 0) _) U fun bd bh aP=> ?_))))
 obtain ⟨rfl,Y⟩:=aP
 refine pg U U U (no U) (p (bj U) (az ((ai _ _ (cb U (fun ac=> ?_) (fun ac=> ?_))))))
 exact ag (fun _ M=>(p aA (p aA (p aA (au (((M _ _ (rt (br (tr (br (br (tr (tr (br (tr (f4 U U U U U (⟨by rw [← hd,drop_cons 0 (by omega :i < s.length),drop_cons 0 (by omega :i+1 < s.length),ya Z (by simpa using ac)]; rfl,Md.trans q Y⟩)))))))))))))))))))
 exact aH (bn (tn (⟨i+1,aa,(j.md Y (fun _ _ h=>h)),(Md.trans q Y),((by rw [← hd,drop_cons 0 (by omega :i < s.length),drop_cons 0 (by omega :i+1 < s.length),x8 Z (by simpa using ac)])),U,U,U⟩)))
 exact aH (tn (ap _ _ (ext (jo ao (te _ (jo ao (te _ (be (tn (⟨i,aa,j,q,((by rw [← hd,drop_cons 0 (by omega :i < s.length),yb aa aa])),U,U,U⟩))))))))))
 rintro I ae ⟨k,hk,al,aJ,aY,a4,a5,a7⟩
 refine fx 0 a4 (fx 6 a5 (fx 7 a7 (ag (fun _ V=>(aj (str s) (aj (.int .i64 k) (p (e7 u9 U U aa) (e (cl tt (yd a c (acc) (s.getD k 0) _ al aa) U fun bf bi aQ=> ?_)))))))))
 obtain ⟨rfl,aF,aI,aL,bb⟩:=aQ
 exact az ((V _ _ (ext (be (bn (tn (O _ _ (rg U (aj (.int .i64 k) (p (ad U U (bu aa)) (au (((⟨_,aa,k+1,acc++ [s.getD k 0],aF,(by rw [List.length_append,List.length_singleton]; omega),aI,(al.step aJ aL aa),aY,U,U,U,U⟩))))))))))))))
 refine ext (te _ (te _ (be (tn (aw _ _ (ag (fun _ O=>(e (cl p9 (rY a c acc _ j aa) U fun bg bk aR=> ?_)))))))))
 obtain ⟨rfl,aM⟩:=aR
 exact p aA (p aA (p aA (au (((O _ _ (rt (f4 U U U U U (⟨by rw [← hd,List.drop_eq_nil_of_le aa,r8]; rfl,j.rX q aM aa⟩)))))))))
theorem Ex (s:List UInt8) (w:World) (hs:s.length≤1048576):
 a3 Tryz.prog 95 (List.toArray [str s]) w (fun v w'=>v= .tuple #[str (letE s).1,.int .i64 (letE s).2]∧Wk w w'):=by
 refine enter Tryz.func95 U Tryz.ntmps95 U (ag (fun _ ax=>(p aA (au (((ax _ _ (ag (fun _ aF=>e (al Iq fun V a8 ba G ao=> ?_))))))))))
 have aP:bl a8.heap V (marksOf []):=by rw [EW]; exact ao
 refine az ((aF _ _ (sq (fun _ aG=>ag (fun _ aI=>(aj (str s) (p (fJ U U) (nl (tn (aI _ _ (cd U (fun ak=> ?_) (fun ak=> ?_))))))))))))
 exact ag (fun _ O=>(p aA (au (((O _ _ (rt (tr (f2 U U U (⟨by show Value.tuple #[str [],.int .i64 21]=_; unfold letE; rw [if_pos (.inl ak)]; rfl,G.md⟩))))))))))
 refine aH (tn (aG _ _ (ag (fun _ O=>(e (fC yf fun E bo bc aw aQ=>az ((O _ _ (sq (fun _ aJ=>ag (fun _ aK=>(aj (str s) (p (cA u9 U U) (p mv (az ((aK _ _ (aC ?_))))))))))))))))))
 have bb:=ao.lt
 refine lp (fun an a J=> ∃ (i:Nat) (c:Value),(i≤s.length)∧(∀ j,j < i→e5 (s.getD j 0)=true)∧(bl J.heap V (marksOf (lets (s.take i))))∧(Bd 143 5 J E c (lets (s.take i)))∧(Wk w J)∧(a 0=str s)∧(a 4=a6 V)∧(a 5=a6 E)∧(a 10= .int .i64 s.length)∧(a 11= .int .i64 i)∧(s.length - i=an)) _ ⟨0,.slice none 0 0,aa,((fun j am=>by omega)),(aw.md.B aP),(Bd.new aQ),(Md.trans G.md aw.md),U,U,U,U,U,U⟩ ?_
 rintro an a J ⟨i,c,hi,hp,av,Z,ae,a0,a4,a5,a1,a2,rfl⟩
 refine fx 0 a0 (fx 4 a4 (fx 5 a5 (fx 10 a1 (fx 11 a2 ?_))))
 have aZ:=vP (s.take i)
 rw [List.length_take] at aZ
 have bd:=av.lt
 refine ag (fun _ aL=>(p (lt U U) (az ((aL _ _ (sq (fun _ aM=>cd U (fun aY=> ?_) (fun aY=> ?_))))))))
 refine aH (tn (aM _ _ (sq (fun _ C=>aC (ag (fun _ ay=>(aj (.int .i64 i) (p (bG (.int .i64 i) U) (az ((ay _ _ (sq (fun _ aB=>ag (fun _ aD=>(aj (str s) (aj (.int .i64 i) (p (e7 u9 U U aa) (e (cl s0 (uK (s.getD i 0) _) U fun bh a7 aV=> ?_)))))))))))))))))))
 obtain ⟨rfl,q⟩:=aV
 refine p (no U) (az ((aD _ _ (cb U (fun ah=> ?_) (fun ah=> ?_)))))
 have I:e5 (s.getD i 0)=false :=by simpa using ah
 exact ag (fun _ M=>(p aA (au (((M _ _ (rt (tr (br (tr (tr (br (tr (f2 U U U (⟨by show Value.tuple #[str [],.int .i64 21]=_; unfold letE; rw [if_pos (.inr (n4 aa I))]; rfl,Md.trans ae q⟩)))))))))))))))
 have I:e5 (s.getD i 0)=true :=by simpa using ah
 have ap:Wk w a7:=Md.trans ae q
 have Y:=q.B av
 have ac:=Z.md q (fun _ _ h=>h)
 have bg:=q.size
 refine aH (tn (aB _ _ (ag (fun _ M=>(aj (str s) (aj (.int .i64 i) (p (e7 u9 U U aa) (p (je sN U U (by have :=UInt8.toNat_lt (s.getD i 0); omega)) (p (ld sA U (EY Y _)) (p (no U) (az ((M _ _ (cb U (fun ai=> ?_) (fun ai=> ?_)))))))))))))))
 have A:¬s.getD i 0∈lets (s.take i):=of_decide_eq_false (by simpa using ai)
 refine ag (fun _ aE=>(aj (str s) (aj (.int .i64 i) (p (e7 u9 U U aa) (p (je sN U U (by have :=UInt8.toNat_lt (s.getD i 0); omega)) (e (st tO U U (U) (Y) (by rw [vT]; have :=UInt8.toNat_lt (s.getD i 0); omega) fun a9 aq aO=> ?_)))))))
 have aU:=EZ aO
 have aS:Wk w a9:=Md.trans' ap aq (fun k hk h=>by omega)
 have ab:=ac.md aq (fun k hk h=>by have :=ac.eO hk; omega)
 refine az ((aE _ _ (rg U (aj (str s) (aj (.int .i64 i) (p (e7 u9 U U aa) (e (cl tt (yd E c (lets (s.take i)) (s.getD i 0) _ ab aa) U fun bi bk aW=> ?_))))))))
 obtain ⟨rfl,aN,aR,ar,bf⟩:=aW
 exact nl (bn (tn (C _ _ (rg U (p (ad U U (bu aa)) (p mv (nl (tn (⟨_,aa,i+1,aN,aa,((fun j am=>by rcases Nat.lt_or_ge j i with h | h <;> first | exact hp j h | (rw [show j=i by omega]; exact I))),((by rw [oP aa,if_neg A]; exact ar.B aU (fun h=>by have :=ab.eO h; omega))),((by rw [oP aa,if_neg A]; exact aR)),(ab.step aS ar (by have :=G.md.size; omega)),U,U,U,U,U,U⟩)))))))))
 have A:s.getD i 0∈lets (s.take i):=by simpa using ai
 exact aH (bn (tn (C _ _ (rg U (p (ad U U (bu aa)) (p mv (nl (tn (⟨_,aa,i+1,c,aa,((fun j am=>by rcases Nat.lt_or_ge j i with h | h <;> first | exact hp j h | (rw [show j=i by omega]; exact I))),((by rw [oP aa,if_pos A]; exact Y)),((by rw [oP aa,if_pos A]; exact ac)),ap,U,U,U,U,U,U⟩)))))))))
 refine ext (te _ (te _ (be (tn (aJ _ _ (ag (fun _ C=>(e (cl p9 (rY E c (lets (s.take i)) _ Z (by have :=vP (s.take i); rw [List.length_take] at this; omega)) U fun bj bm aX=> ?_)))))))))
 obtain ⟨rfl,aT⟩:=aX
 exact p aA (au (((C _ _ (rt (f2 U U U (⟨by show Value.tuple #[str (lets (s.take i)),.int .i64 0]=_; unfold letE; rw [if_neg (by rw [n5 (fun j am=>hp j aa)]; exact fun h=>h.elim ak Bool.noConfusion),show s.take i=s from List.take_of_length_le aa]; rfl,Z.rX ae aT (by have :=G.md.size; omega)⟩)))))))
end Go.Hb.jZ
end
section
set_option maxRecDepth 20000
set_option maxHeartbeats 1000000
namespace Go.Hb.iG
open Go.Hb.c6
open Go.Proofs
theorem vo {s:List UInt8} (h:¬s= []) (h1:¬(1 < s.length∧(s.getD 0 0).toNat=48)):¬kF s:=fun a=>a.elim h h1
theorem F7 {s:List UInt8} (h:¬kF s):0 < s.length:=List.length_pos_iff.2 (fun e=>h (.inl e))
theorem oW (s:List UInt8) (most:Int) (w:World) (hs:s.length≤1048576) (hm: -9223372036854775808≤most∧most≤9223372036854775807):
 a3 Tryz.prog 68 (List.toArray [str s,.int .i64 most]) w (fun v w'=>v= .tuple #[.int .i64 (dI s most).1,.int .i64 (dI s most).2]∧Wk w w'):=by
 refine enter Tryz.func68 U Tryz.ntmps68 U (ag (fun _ ab=>(p aA (au (((ab _ _ ?_)))))))
 refine dA (fun M J=>(¬kF s)∧(J=w)∧(M 0=str s)∧(M 1= .int .i64 most)) ?_ ?_
 refine ag (fun _ q=>(aj (str s) (p (fJ U U) (p mv (gs (t:=11) U (fun E=> ?_) (fun E=> ?_))))))
 exact sk U U U U (sk U U U U (sk U U U U (sk U U U U (ma U U U (ma U U U (ma U U U (sk U U U U (p (bE U) (az ((q _ _ (ct U (ag (fun _ A=>(p aA (p aA (az ((A _ _ (rt (tr (f2 U U U (⟨by show Value.tuple #[.int .i64 0,.int .i64 13]=_; rw [wg (.inl E)]; rfl,Md.refl _ _⟩)))))))))))))))))))))))
 refine pg U U U (aB (str s) U) (pg U U U (cA u9 U U) (pg U U U (gt U U) (pg U U U mv (gs (t:=15) U (fun aw=> ?_) (fun aw=> ?_)))))
 refine pg U U U (aB (str s) U) (pg U U U (gJ 0 u9 U U aa) (pg U U U (bp U U) (pg U U U (bE U) (p (bj U) (az ((q _ _ (cd U (fun ap=> ?_) (fun ap=> ?_)))))))))
 exact ag (fun _ A=>(p aA (au (((A _ _ (rt (tr (f2 U U U (⟨by show Value.tuple #[.int .i64 0,.int .i64 13]=_; rw [wg (.inr ⟨aa,aa⟩)]; rfl,Md.refl _ _⟩))))))))))
 have G:=vo (s:=s) E aa
 exact aH (tn (⟨G,U,U,U⟩))
 exact sk U U U U (sk U U U U (sk U U U U (pg U U U (bj U) (p (bj U) (az ((q _ _ (cf U (aH (tn (⟨(vo (s:=s) E aa),U,U,U⟩)))))))))))
 rintro M J ⟨G,an,aE,aF⟩
 refine fx 0 aE (fx 1 aF ?_)
 subst an
 have hp:=F7 G
 refine ag (fun _ q=>(au (((q _ _ (sq (fun _ A=>ag (fun _ ah=>aj (str s) (p (cA u9 U U) (p mv (az ((ah _ _ (aC (lp (fun O c Z=> ∃ (i:Nat),(i≤s.length)∧(Z=J)∧((dt (s.take i):Int)≤max 0 most∧(0 < i→(dt (s.take i):Int)≤most))∧(∀ j,j < i→mS (s.getD j 0)=true)∧(c 0=str s)∧(c 1= .int .i64 most)∧(c 6=ae (dt (s.take i)))∧(c 22= .int .i64 s.length)∧(c 23= .int .i64 i)∧(s.length - i=O)) _ ⟨0,aa,U,((by rw [List.take_zero]; show (0:Int)≤_∧_; omega)),((fun j Y=>by omega)),U,U,(iv (by first | rfl | (rw [mP aa]))),U,U,U⟩ ?_)))))))))))))))
 rintro O c Z ⟨i,hi,ao,hn,V,aG,aI,aL,aJ,aK,rfl⟩
 refine fx 0 aG (fx 1 aI (fx 6 aL (fx 22 aJ (fx 23 aK ?_))))
 subst ao
 have aM:=UInt8.toNat_lt (s.getD i 0)
 refine ag (fun _ ai=>(p (lt U U) (az ((ai _ _ (sq (fun _ ak=>cd U (fun aq=> ?_) (fun aq=> ?_))))))))
 refine aH (tn (ak _ _ (sq (fun _ I=>aC (ag (fun _ al=>(aj (.int .i64 i) (p (bG (.int .i64 i) U) (az ((al _ _ (ag (fun _ am=>(aj (str s) (aj (.int .i64 i) (p (e7 u9 U U aa) (p (ql u3 nE U (bu aa)) (p (sb U U (bu aa)) (au (((am _ _ (sq (fun _ ac=>ag (fun _ C=>(p mv (p (lt U U) (p mv (gs (t:=33) U (fun ax=> ?_) (fun ax=> ?_))))))))))))))))))))))))))))))
 exact sk U U U U (sk U U U U (p (bE U) (p mv (sk U U U U (sk U U U U (sk U U U U (p (bE U) (p mv (sk U U U U (sk U U U U (sk U U U U (sk U U U U (sk U U U U (sk U U U U (p (bE U) (az ((C _ _ (ct U (ag (fun _ a=>(p aA (p aA (nl (tn (a _ _ (rt (tr (br (tr (tr (br (tr (f2 U U U (⟨by show Value.tuple #[.int .i64 0,.int .i64 13]=_; rw [wc (i:=i) aa (ug aa)]; rfl,Md.refl _ _⟩)))))))))))))))))))))))))))))))))))
 refine pg U U U mv (pg U U U (gt U U) (p (bj U) (p mv (gs (t:=37) U (fun ay=> ?_) (fun ay=> ?_)))))
 exact sk U U U U (sk U U U U (sk U U U U (p (bE U) (p mv (sk U U U U (sk U U U U (sk U U U U (sk U U U U (sk U U U U (sk U U U U (p (bE U) (az ((C _ _ (ct U (sq (fun _ a=>rg U (p aA (au (((a _ _ (rt (tr (br (tr (tr (br (tr (f2 U U U (⟨by show Value.tuple #[.int .i64 0,.int .i64 13]=_; rw [wc (i:=i) aa (ug aa)]; rfl,Md.refl _ _⟩)))))))))))))))))))))))))))))))
 refine pg U U U (aB (.int .i64 most) U) (pg U U U mv (pg U U U (lt U U) (p (bj U) (p mv (gs (t:=42) U (fun aD=> ?_) (fun aD=> ?_))))))
 exact sk U U U U (sk U U U U (sk U U U U (sk U U U U (sk U U U U (sk U U U U (p (bE U) (nl (tn (C _ _ (ct U (ag (fun _ a=>(p aA (au (((a _ _ (rt (tr (br (tr (tr (br (tr (f2 U U U (⟨by show Value.tuple #[.int .i64 0,.int .i64 13]=_; rw [vZ (i+1) (by rw [mP aa]; omega)]; rfl,Md.refl _ _⟩))))))))))))))))))))))))))
 have aN:((s.getD i 0).toNat:Int) - 48≤most:=aa
 refine pg U U U (aB (ae (dt (s.take i))) U) (pg U U U (aB (.int .i64 most) U) (pg U U U mv (pg U U U (sb U U (bu aa)) (pg U U U (kj (((most - (((s.getD i 0).toNat:Int) - 48)).toNat / 10:Nat):Int) U U aa (aU aa aa)) (pg U U U (gt U U) (p (bj U) (nl (tn (C _ _ (cd U (fun ar=> ?_) (fun ar=> ?_)))))))))))
 exact ag (fun _ a=>(p aA (au (((a _ _ (rt (tr (br (tr (tr (br (tr (f2 U U U (⟨by show Value.tuple #[.int .i64 0,.int .i64 13]=_; rw [vZ (i+1) (by rw [mP aa]; omega)]; rfl,Md.refl _ _⟩)))))))))))))))
 have av:mS (s.getD i 0)=true :=decide_eq_true aa
 exact aH (tn (ac _ _ (rg U (aj (ae (dt (s.take i))) (p (ll ((dt (s.take i)*10:Nat):Int) U U (aU aa aa)) (p mv (p (bm ((dt (s.take i)*10 +((s.getD i 0).toNat - 48):Nat):Int) U U (aU aa aa)) (p aA (nl (bn (tn (I _ _ (rg U (p (ad U U (bu aa)) (p mv (nl (tn (⟨_,aa,i+1,aa,U,((by rw [mP aa]; omega)),((fun j Y=>by rcases Nat.lt_or_ge j i with h | h <;> first | exact V j h | (rw [show j=i by omega]; exact av))),U,U,(iv (by first | rfl | (rw [mP aa]))),U,U,U⟩))))))))))))))))))
 exact ext (te _ (te _ (be (tn (A _ _ (ag (fun _ I=>(aj (ae (dt (s.take i))) (p (bG (ae (dt (s.take i))) U) (au (((I _ _ (rt (f2 U U U (⟨by show Value.tuple #[ae (dt (s.take i)),.int .i64 0]=_; rw [show s.take i=s from List.take_of_length_le aa,rp G (fun j Y=>V j aa) (by rw [show s.take i=s from List.take_of_length_le aa] at hn; omega)],Md.refl _ _⟩))))))))))))))))
end Go.Hb.iG
end
section
set_option maxRecDepth 20000
set_option maxHeartbeats 1000000
namespace Go.Hb.gG
open Go.Hb.c6
open Go.Proofs
theorem rI {s a:List UInt8} (h:s.take a.length=a):a.length≤s.length:=by
 have :=congrArg List.length h
 rw [List.length_take] at this; omega
theorem Hm {s:List UInt8} (h:decide (1≤s.length∧s.drop (s.length - 1)= [13])=true):ew s=s.take (s.length - 1):=by
 have h1:=of_decide_eq_true h
 rw [vK aa] at h1
 exact qv aa (by simpa using h1.2)
theorem Hn {s:List UInt8} (h:decide (1≤s.length∧s.drop (s.length - 1)= [13])=false):ew s=s:=by
 have h1:=of_decide_eq_false h
 refine qu fun h2=>h1 ⟨aa,?_⟩
 rw [vK aa,h2.2]
theorem D7 (c:UInt8):cX c [c]=0:=by unfold cX; simp
theorem vf (s a:List UInt8) (w:World) (hs:s.length≤1099511627776) (hp:a.length≤1099511627776):
 a3 Tryz.prog 129 (List.toArray [str s,str a]) w (fun v w'=>v= .bool (decide (s.take a.length=a))∧Wk w w'):=by
 refine enter Tryz.func129 U Tryz.ntmps129 U (ag (fun _ i=>(au (((i _ _ (ag (fun _ c=>(aj (str s) (p (cA u9 U U) (aj (str a) (p (cA u9 U U) (p (ge U U) (p mv (gs (t:=10) U (fun j=> ?_) (fun j=> ?_))))))))))))))))
 exact pg U U U (aB (str s) U) (pg U U U (aB (str a) U) (pg U U U (cA u9 U U) (pg U U U (pc u9 U U aa) (pg U U U (aB (str a) U) (pg U U U (fJ U U) (p (bE U) (p aA (az ((c _ _ (rt (f1 U U (⟨U,Md.refl _ _⟩)))))))))))))
 exact sk U U U U (sk U U U U (sk U U U U (sk U U U U (sk U U U U (sk U U U U (p (bj U) (p aA (az ((c _ _ (rt (f1 U U (⟨by show Value.bool false =_; rw [decide_eq_false (fun h=>by have :=rI h; omega)],Md.refl _ _⟩)))))))))))))
theorem HA (s a:List UInt8) (w:World) (hs:s.length≤1099511627776) (hp:a.length≤1099511627776):
 a3 Tryz.prog 111 (List.toArray [str s,str a]) w (fun v w'=>v=str (dZ s a)∧Wk w w'):=by
 refine enter Tryz.func111 U Tryz.ntmps111 U (ag (fun _ A=>(au (((A _ _ (sq (fun _ C=>ag (fun _ E=>aj (str s) (aj (str a) (e (cl s8 (vf s a _ hs hp) U fun J M G=> ?_))))))))))))
 obtain ⟨rfl,q⟩:=G
 refine az ((E _ _ (cb U (fun j=> ?_) (fun j=> ?_))))
 have c:=of_decide_eq_true j
 have I:=rI c
 exact ag (fun _ i=>(aj (str s) (aj (str a) (p (cA u9 U U) (p (km u9 U U aa) (p aA (nl (tn (i _ _ (rt (tr (f1 U U (⟨by show str (s.drop (a.length:Int).toNat)=_; unfold dZ; rw [if_pos c]; rfl,q⟩)))))))))))))
 have c:=of_decide_eq_false j
 exact aH (tn (C _ _ (ag (fun _ i=>(aj (str s) (p (bG (str s) U) (az ((i _ _ (rt (f1 U U (⟨by show str s=_; unfold dZ; rw [if_neg c],q⟩))))))))))))
theorem HB (s a:List UInt8) (w:World) (hs:s.length≤1099511627776) (hp:a.length≤1099511627776):
 a3 Tryz.prog 89 (List.toArray [str s,str a]) w (fun v w'=>v=str (dZ s a)∧Wk w w'):=by
 refine enter Tryz.func89 U Tryz.ntmps89 U (ag (fun _ c=>(au (((c _ _ (ag (fun _ i=>(aj (str s) (aj (str a) (e (cl zg (HA s a _ hs hp) U fun q A p=> ?_))))))))))))
 obtain ⟨rfl,j⟩:=p
 exact au (((i _ _ (rt (f1 U U (⟨U,j⟩))))))
theorem Dn (s a:List UInt8) (w:World) (hs:s.length≤1099511627776) (hp:a.length≤1099511627776):
 a3 Tryz.prog 131 (List.toArray [str s,str a]) w (fun v w'=>v= .bool (decide (a.length≤s.length∧s.drop (s.length - a.length)=a))∧Wk w w'):=by
 refine enter Tryz.func131 U Tryz.ntmps131 U (ag (fun _ i=>(au (((i _ _ (ag (fun _ c=>(aj (str s) (p (cA u9 U U) (aj (str a) (p (cA u9 U U) (p (ge U U) (p mv (gs (t:=10) U (fun j=> ?_) (fun j=> ?_))))))))))))))))
 exact pg U U U (aB (str s) U) (pg U U U (aB (str s) U) (pg U U U (cA u9 U U) (pg U U U (aB (str a) U) (pg U U U (cA u9 U U) (pg U U U (sb U U (bu aa)) (pg U U U (km u9 U U aa) (pg U U U (aB (str a) U) (pg U U U (fJ U U) (p (bE U) (au (((c _ _ (rt (f1 U U (⟨by show Value.bool (decide (s.drop ((s.length:Int) - (a.length:Int)).toNat=a))=_; rw [show ((s.length:Int) - (a.length:Int)).toNat=s.length - a.length from by omega]; exact bv (by constructor <;> intro h <;> first | exact ⟨aa,h⟩ | exact h.2),Md.refl _ _⟩))))))))))))))))
 exact sk U U U U (sk U U U U (sk U U U U (sk U U U U (sk U U U U (sk U U U U (sk U U U U (sk U U U U (sk U U U U (p (bj U) (au (((c _ _ (rt (f1 U U (⟨by show Value.bool false =_; rw [decide_eq_false aa],Md.refl _ _⟩))))))))))))))))
theorem HC (s:List UInt8) (w:World) (hs:s.length≤1099511627776):
 a3 Tryz.prog 113 (List.toArray [str s,str [13]]) w (fun v w'=>v=str (ew s)∧Wk w w'):=by
 refine enter Tryz.func113 U Tryz.ntmps113 U (ag (fun _ j=>(au (((j _ _ (sq (fun _ q=>ag (fun _ A=>aj (str s) (aj (str [13]) (e (cl zp (Dn s [13] _ hs ao) U fun I J C=> ?_))))))))))))
 obtain ⟨rfl,i⟩:=C
 refine az ((A _ _ (cb U (fun a=> ?_) (fun a=> ?_))))
 have G:=(of_decide_eq_true a).1
 have E:([13]:List UInt8).length=1:=rfl
 exact ag (fun _ c=>(aj (str s) (aj (str s) (p (cA u9 U U) (aj (str [13]) (p (cA u9 U U) (p (sb U U (bu aa)) (p (pc u9 U U aa) (au (((c _ _ (rt (tr (f1 U U (⟨by show str (s.take ((s.length:Int) - (([13]:List UInt8).length:Int)).toNat)=_; rw [Hm a,show ((s.length:Int) - (([13]:List UInt8).length:Int)).toNat=s.length - 1 from by simp only [List.length_singleton]; omega],i⟩))))))))))))))))
 exact aH (tn (q _ _ (ag (fun _ c=>(aj (str s) (p (bG (str s) U) (az ((c _ _ (rt (f1 U U (⟨by show str s=_; rw [Hn a],i⟩))))))))))))
theorem HD (s:List UInt8) (w:World) (hs:s.length≤1099511627776):
 a3 Tryz.prog 91 (List.toArray [str s,str [13]]) w (fun v w'=>v=str (ew s)∧Wk w w'):=by
 refine enter Tryz.func91 U Tryz.ntmps91 U (ag (fun _ a=>(au (((a _ _ (ag (fun _ c=>(aj (str s) (aj (str [13]) (e (cl zi (HC s _ hs) U fun p q j=> ?_))))))))))))
 obtain ⟨rfl,i⟩:=j
 exact au (((c _ _ (rt (f1 U U (⟨U,i⟩))))))
theorem vv (s:List UInt8) (c:UInt8) (w:World):
 a3 Tryz.prog 144 (List.toArray [str s,.int .u8 c.toNat]) w (fun v w'=>v= .int .i64 (cX c s)∧Wk w w'):=by
 exact enter Tryz.func144 U Tryz.ntmps144 U (ag (fun _ a=>(au (((a _ _ (ag (fun _ i=>(aj (str s) (aj (.int .u8 c.toNat) (p (tL (Ea s c _) U) (au (((i _ _ (rt (f1 U U (⟨U,Md.refl _ _⟩))))))))))))))))))
theorem vu (s:List UInt8) (c:UInt8) (w:World):
 a3 Tryz.prog 130 (List.toArray [str s,str [c]]) w (fun v w'=>v= .int .i64 (cX c s)∧Wk w w'):=by
 refine enter Tryz.func130 U Tryz.ntmps130 U (ag (fun _ j=>(au (((j _ _ (ag (fun _ q=>(aj (str [c]) (p (cA u9 U U) (au (((q _ _ (sq (fun _ I=>aC (ag (fun _ A=>p mv (p (bp U U) (p mv (gs (t:=19) U (fun h=>absurd h (by simp)) (fun M=>pg U U U (aB (str [c]) U) (pg U U U (aB (str s) U) (pg U U U (fJ U U) (p (bj U) (au (((A _ _ (cd U (fun i=> ?_) (fun i=> ?_)))))))))))))))))))))))))))))))
 exact ag (fun _ a=>(au (((a _ _ (rt (br (tr (f1 U U (⟨by show Value.int .i64 0=_; rw [← i,D7],Md.refl _ _⟩))))))))))
 refine ag (fun _ a=>(p mv (p (bp U U) (au (((a _ _ (cd U (fun J=> ?_) (fun h=>absurd U h)))))))))
 refine ag (fun _ C=>(aj (str s) (aj (str [c]) (p (gJ 0 u9 U U (by simp)) (e (cl td (vv s c _) U fun v30 O G=> ?_))))))
 obtain ⟨rfl,E⟩:=G
 exact au (((C _ _ (rt (br (tr (f1 U U (⟨U,E⟩))))))))
theorem DT (s:List UInt8) (c:UInt8) (w:World):
 a3 Tryz.prog 173 (List.toArray [str s,str [c]]) w (fun v w'=>v= .int .i64 (cX c s)∧Wk w w'):=by
 refine enter Tryz.func173 U Tryz.ntmps173 U (ag (fun _ a=>(au (((a _ _ (ag (fun _ i=>(aj (str s) (aj (str [c]) (e (cl s9 (vu s c _) U fun q A p=> ?_))))))))))))
 obtain ⟨rfl,j⟩:=p
 exact au (((i _ _ (rt (f1 U U (⟨U,j⟩))))))
theorem Bo (s:List UInt8) (c:UInt8) (w:World) (hs:s.length≤1099511627776):
 a3 Tryz.prog 112 (List.toArray [str s,str [c]]) w (fun v w'=>v= .tuple #[str (ij c s),str (ja c s),.bool (!decide (cX c s < 0))]∧Wk w w'):=by
 refine enter Tryz.func112 U Tryz.ntmps112 U (ag (fun _ A=>(p aA (p aA (au (((A _ _ (sq (fun _ C=>ag (fun _ E=>(aj (str s) (aj (str [c]) (e (cl s9 (vu s c _) U fun v10 j I=> ?_)))))))))))))))
 obtain ⟨rfl,q⟩:=I
 refine au (((E _ _ (ag (fun _ G=>(p mv (p (ge U U) (nl (tn (G _ _ (cd U (fun J=> ?_) (fun J=> ?_))))))))))))
 have M:=lZ (c:=c) (l:=s) aa
 have O:[c].length=1:=rfl
 refine sq (fun _ i=> ?_)
 have a:(fun w'=>Wk j w') j.drew:=(Md.refl _ _).drew
 exact bS (fun w'=>Wk j w') U wide a (bH 0 U (str s) a (aT 1 U (fun _ _=>mv) a (aT 2 U (fun _ _=>pc u9 U U aa) a (bH 3 U (str s) a (aT 4 U (fun _ _=>mv) a (bH 5 U (str [c]) a (aT 6 U (fun _ _=>cA u9 U U) a (aT 7 U (fun _ _=>bm ((s.idxOf c+1:Nat):Int) U U (aU aa aa)) a (aT 8 U (fun _ _=>km u9 U U aa) a (aT 9 U (fun _ _=>aA) a (aT 10 U (fun _ _=>aA) a (aT 11 U (fun _ _=>aA) a (hn ab (tn (i _ _ (rt (tr (f3 U U U U (⟨by show Value.tuple #[str (s.take (cX c s).toNat),str (s.drop (s.idxOf c+1)),.bool true]=_; unfold ij ja; rw [if_neg aa,if_neg aa,M.1,decide_eq_false aa]; rfl,Md.trans q (Md.refl _ _).drew⟩)))))))))))))))))))
 exact aH (tn (C _ _ (ag (fun _ i=>(aj (str s) (p (bG (str s) U) (p aA (p aA (az ((i _ _ (rt (f3 U U U U (⟨by show Value.tuple #[str s,str [],.bool false]=_; unfold ij ja; rw [if_pos aa,if_pos aa,decide_eq_true aa]; rfl,q⟩))))))))))))))
theorem Bt (s:List UInt8) (c:UInt8) (w:World) (hs:s.length≤1099511627776):
 a3 Tryz.prog 90 (List.toArray [str s,str [c]]) w (fun v w'=>v= .tuple #[str (ij c s),str (ja c s),.bool (!decide (cX c s < 0))]∧Wk w w'):=by
 refine enter Tryz.func90 U Tryz.ntmps90 U (ag (fun _ a=>(p aA (p aA (au (((a _ _ (sq (fun _ i=>rg U (aj (str s) (aj (str [c]) (e (cl zh (Bo s c _ hs) U fun v9 A q=> ?_))))))))))))))
 obtain ⟨rfl,j⟩:=q
 exact p (xt U U) (p (xt U U) (p (xt U U) (p aA (p aA (au (((i _ _ (rt (f3 U U U U (⟨U,j⟩)))))))))))
end Go.Hb.gG
end
